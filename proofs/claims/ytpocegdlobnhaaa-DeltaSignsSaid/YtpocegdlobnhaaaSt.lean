/- Steps of a walk: stores into new blocks, rows written in the middle, literals, appends. No function in sight. -/
import Derived.Test.YtpocegdlobnhaaaWk
import Derived.Test.YtpocegdlobnhaaaDE
import Derived.Great.BuildSlice
set_option linter.unusedVariables false
set_option linter.unusedSimpArgs false
set_option maxRecDepth 100000
namespace Go.Proofs.Ytpocegdlobnhaaa
open Go.RowKit
theorem wpList_store_new {P : Program} {ops : Array Oper} {rest : List Oper} {op : Oper} {a : Act} {w : World} {Q : Exit → Act → World → Prop} (hgd : op.guard = none) (ty : TypeId) (x y : Operand) (ho : op.op = .store ty x y)
    (c c' : Array Value) (hx : a.eval x = .pointer (some ⟨w.heap.size, 0, none⟩)) (hy : a.eval y = .agg c')
    (hi : (P.info? ty).map (·.size) = some c'.size) (hz : c.size = c'.size) (h1 : c'.all (·.oneCell') = true)
    (h : wpList P ops Q rest (a.put op.dst undef) (w.alloc (.cells c' ty))) : wpList P ops Q (op :: rest) a (w.alloc (.cells c ty)) :=
  wpList_plain hgd fun _ hK => by
    unfold Oper.wp execOp
    simp only [ho, hx, hy, Sem.run_bind, Sem.run_pure, Result.andThen_ok, run_storeAt_new w ty c c' hi hz h1]
    exact hK _ _ h
theorem wpList_store_last {P : Program} {ops : Array Oper} {rest : List Oper} {op : Oper} {a : Act} {w : World} {Q : Exit → Act → World → Prop} (hgd : op.guard = none) (ty : TypeId) (x y : Operand) (ho : op.op = .store ty x y)
    (b : Nat) (c c' : Array Value) (hx : a.eval x = .pointer (some ⟨b, 0, none⟩)) (hb : b = w.heap.size) (hy : a.eval y = .agg c')
    (hi : (P.info? ty).map (·.size) = some c'.size) (hz : c.size = c'.size) (h1 : c'.all (·.oneCell') = true)
    (h : wpList P ops Q rest (a.put op.dst undef) (w.alloc (.cells c' ty))) : wpList P ops Q (op :: rest) a (w.alloc (.cells c ty)) := by
  subst hb; exact wpList_store_new hgd ty x y ho c c' hx hy hi hz h1 h
theorem wpList_load_mid_w {P : Program} {ops : Array Oper} {rest : List Oper} {op : Oper} {a : Act} {w : World} {Q : Exit → Act → World → Prop} (ty : TypeId) (x : Operand) (ho : op.op = .load ty x) (hw : Region.wanted op (yielded ops a.tmps) = true)
    (b o : Nat) (hx : a.eval x = .pointer (some ⟨b, o, none⟩)) (cs : List Value) (d : TypeDesc) (hc : w.rangeAt b o cs)
    (hu : P.underlying ty = some d) (hd : d.isRow = true) (hi : (P.info? ty).map (·.size) = some cs.length)
    (h : wpList P ops Q rest (a.put op.dst (.agg cs.toArray)) w) : wpList P ops Q (op :: rest) a w := by
  unfold wpList
  rw [if_pos hw]
  exact Or.inl (wp_load_mid ty x ho b o hx cs d hc hu hd hi h)
theorem set_all : ∀ (cs : List Value) (k : Nat) (arr : Array Value), k + cs.length ≤ arr.size →
    ((cs.zipIdx k).foldl (fun acc (x : Value × Nat) => acc.setIfInBounds (0 * cs.length + x.2) x.1) arr).toList = arr.toList.take k ++ cs ++ arr.toList.drop (k + cs.length) := by
  intro cs
  have key : ∀ (L : Nat) (cs : List Value) (k : Nat) (arr : Array Value), k + cs.length ≤ arr.size → ((cs.zipIdx k).foldl (fun acc (x : Value × Nat) => acc.setIfInBounds (0 * L + x.2) x.1) arr).toList = arr.toList.take k ++ cs ++ arr.toList.drop (k + cs.length) := by
    intro L cs
    induction cs with
    | nil => intro k arr h; simp
    | cons v rest ih =>
      intro k arr h
      simp only [List.zipIdx_cons, List.foldl_cons, Nat.zero_mul, Nat.zero_add] at ih ⊢
      rw [ih (k + 1) (arr.setIfInBounds k v) (by simp at h ⊢; omega)]
      have e := list_seg_step arr.toList k v rest (by simp at h ⊢; omega)
      simpa [Array.toList_setIfInBounds] using e
  exact key _ cs
theorem fill_one (cs arr : Array Value) (h : cs.size = arr.size) : Instr.fill (fun i => some (i * arr.size, arr.size)) arr [(0, .agg cs)] = some cs := by
  have hs := set_all cs.toList 0 arr (by simp [h])
  have e : (cs.zipIdx.foldl (fun acc (x : Value × Nat) => acc.setIfInBounds (0 * arr.size + x.2) x.1) arr).toList = ((cs.toList.zipIdx 0).foldl (fun acc (x : Value × Nat) => acc.setIfInBounds (0 * cs.toList.length + x.2) x.1) arr).toList := by
    rw [← Array.foldl_toList, Array.toList_zipIdx]; simp
  have e2 := e.trans hs
  have e3 : cs.zipIdx.foldl (fun acc (x : Value × Nat) => acc.setIfInBounds (0 * arr.size + x.2) x.1) arr = cs := by
    apply Array.ext'; rw [e2]; simp [h]
  have c1 : (decide ((Value.agg cs).cells.size ≠ arr.size) || decide (0 * arr.size + (Value.agg cs).cells.size > arr.size)) = false := by simp [Value.cells, h]
  unfold Instr.fill
  simp only [c1, Bool.false_eq_true, if_false]
  unfold Instr.fill
  exact congrArg some e3
theorem wpList_build1 {P : Program} {ops : Array Oper} {rest : List Oper} {o : Oper} {a : Act} {w : World} {Q : Exit → Act → World → Prop} (hg : o.guard = none) (t e : TypeId) (x : Operand) (ho : o.op = .buildSlice t 1 #[(0, x)])
    (cs : Array Value) (hx : a.eval x = .agg cs) (z : Value) (sz bytes : Nat) (hu : P.underlying t = some (.slice e)) (hinfo : (P.info? e).map (fun i => (i.zero, i.size, i.bytes)) = some (some z, sz, bytes)) (hsz : cs.size = sz) (h0 : 0 < sz) (h1 : sz ≤ 1000)
    (h : wpList P ops Q rest (a.put o.dst (.slice (some ⟨w.heap.size, 0, none⟩) 1 1)) (w.alloc (.cells cs e))) : wpList P ops Q (o :: rest) a w := by
  obtain ⟨i, hi, hz, hs, hb⟩ := info_parts hinfo
  refine wpList_buildSlice hg t e 1 #[(0, x)] ho cs i z hu hi hz (by rw [hs]; omega) (by rw [hs]; omega) ?_ h
  have hl : ((Array.range (1 * i.size)).map (fun j => z.cells[j % z.cells.size]!)).size = i.size := by simp
  have := fill_one cs ((Array.range (1 * i.size)).map (fun j => z.cells[j % z.cells.size]!)) (by rw [hl, hs, hsz])
  rw [hl] at this
  simpa [hx] using this
theorem wpList_built1 {P : Program} {ops : Array Oper} {rest : List Oper} {o : Oper} {a : Act} {w : World} {Q : Exit → Act → World → Prop} (hg : o.guard = none) (t : TypeId) (i : Nat) (x : Operand) (ho : o.op = .build t #[(i, x)]) (u : Value) (hx : a.eval x = u) (cells : Array Value) (hb : P.built t [(i, u)] = some cells)
    (h : wpList P ops Q rest (a.put o.dst (.agg cells)) w) : wpList P ops Q (o :: rest) a w := by
  have e : ((#[(i, x)] : Array (Nat × Operand)).map fun (i, x) => (i, a.eval x)).toList = [(i, u)] := by simp [hx]
  refine wpList_build hg t #[(i, x)] ho (by rw [e, hb]; rfl) ?_
  rw [e, hb]; exact h
theorem wpList_built2 {P : Program} {ops : Array Oper} {rest : List Oper} {o : Oper} {a : Act} {w : World} {Q : Exit → Act → World → Prop} (hg : o.guard = none) (t : TypeId) (i j : Nat) (x y : Operand) (ho : o.op = .build t #[(i, x), (j, y)]) (u v : Value) (hx : a.eval x = u) (hy : a.eval y = v) (cells : Array Value) (hb : P.built t [(i, u), (j, v)] = some cells)
    (h : wpList P ops Q rest (a.put o.dst (.agg cells)) w) : wpList P ops Q (o :: rest) a w := by
  have e : ((#[(i, x), (j, y)] : Array (Nat × Operand)).map fun (i, x) => (i, a.eval x)).toList = [(i, u), (j, v)] := by simp [hx, hy]
  refine wpList_build hg t #[(i, x), (j, y)] ho (by rw [e, hb]; rfl) ?_
  rw [e, hb]; exact h
theorem wpList_built3 {P : Program} {ops : Array Oper} {rest : List Oper} {o : Oper} {a : Act} {w : World} {Q : Exit → Act → World → Prop} (hg : o.guard = none) (t : TypeId) (i j k : Nat) (x y z : Operand) (ho : o.op = .build t #[(i, x), (j, y), (k, z)]) (u v s : Value) (hx : a.eval x = u) (hy : a.eval y = v) (hz : a.eval z = s) (cells : Array Value) (hb : P.built t [(i, u), (j, v), (k, s)] = some cells)
    (h : wpList P ops Q rest (a.put o.dst (.agg cells)) w) : wpList P ops Q (o :: rest) a w := by
  have e : ((#[(i, x), (j, y), (k, z)] : Array (Nat × Operand)).map fun (i, x) => (i, a.eval x)).toList = [(i, u), (j, v), (k, s)] := by simp [hx, hy, hz]
  refine wpList_build hg t #[(i, x), (j, y), (k, z)] ho (by rw [e, hb]; rfl) ?_
  rw [e, hb]; exact h
theorem wpList_app0 {P : Program} {ops : Array Oper} {rest : List Oper} {o : Oper} {a : Act} {Q : Exit → Act → World → Prop} (w0 : World) (hgd : o.guard = none) (s x : Operand) (t : TypeId)
    (ho : o.op = .call { callee := .builtin .append, args := #[s, x], argTypes := #[t, t] })
    (e : TypeId) (z : Value) (sz bytes : Nat) (ht : P.underlying t = some (.slice e)) (hinfo : (P.info? e).map (fun i => (i.zero, i.size, i.bytes)) = some (some z, sz, bytes)) (hz : z.cells.size = sz) (hsz : 0 < sz)
    (hs : a.eval s = .slice (some ⟨w0.heap.size, 0, none⟩) 0 0)
    (sp : Option Addr) (m c : Nat) (news : List Value) (hx : a.eval x = .slice sp m c) (hl : news.length = m * sz) (hc : sp = none → c = 0) (hrd : Rd w0 sp news) (h1 : ∀ u ∈ news, u.oneCell' = true)
    (h63 : m ≤ maxLen) (hbytes : m * bytes ≤ 140737488355328)
    (h : ∀ a' c' w', Sl w' e sz (.slice a' m c') m news → Keep [] w0 w' → Fr w0 [] (blks (.slice a' m c')) → wpList P ops Q rest (a.put o.dst (.slice a' m c')) w') : wpList P ops Q (o :: rest) a (w0.alloc (.cells #[] e)) := by
  have k0 : Keep [] w0 (w0.alloc (.cells #[] e)) := (Keep.refl [] w0).alloc _
  have S0 : Sl (w0.alloc (.cells #[] e)) e sz (.slice (some ⟨w0.heap.size, 0, none⟩) 0 0) 0 [] := Sl.made w0 e sz #[] 0 _ rfl (by simp) (by simp [maxLen])
  have f0 : ∀ b ∈ blks (.slice (some ⟨w0.heap.size, 0, none⟩) 0 0), w0.heap.size ≤ b := fun b hb => by rw [show b = w0.heap.size by simpa [blks, Value.ownBlock] using hb]; exact Nat.le_refl _
  refine wpList_appendN hgd s x t ho e z sz bytes ht hinfo hz hsz _ 0 [] hs S0 sp m c news hx hl hc (hrd.keep k0 (by simp)) h1 (by omega) (by rw [Nat.zero_add]; exact hbytes) ?_
  intro a' c' w' h2 h3 h4
  rw [Nat.zero_add, List.nil_append] at h2
  rw [Nat.zero_add] at h4 ⊢
  refine h a' c' w' h2 (k0.trans h3 (fun b hb => Or.inr (f0 b hb))) (fun b hb => Or.inr ?_)
  rcases h4 b hb with h5 | h5
  · exact f0 b h5
  · have := k0.size; omega
theorem sl_nilcap {w : World} {e : TypeId} {sz : Nat} {a : Option Addr} {n c : Nat} {vs : List Value} (h : Sl w e sz (.slice a n c) n vs) : a = none → c = 0 := by
  obtain ⟨_, _, e, _, _, _, _, h⟩ := h.form
  simp only [Value.slice.injEq, true_and] at e
  rw [e.1, e.2]; exact h
theorem sl_le {w : World} {e : TypeId} {sz : Nat} {a : Option Addr} {n c : Nat} {vs : List Value} (h : Sl w e sz (.slice a n c) n vs) : n ≤ c := by
  obtain ⟨_, _, e, _, _, h, _, _⟩ := h.form
  simp only [Value.slice.injEq, true_and] at e
  rw [e.2]; exact h
theorem rd_take {w : World} {a : Option Addr} {xs : List UInt8} (h : Rd w a (bs xs)) (k : Nat) : Rd w a (bs (xs.take k)) := by
  rcases h with e | ⟨b, off, e, hc⟩
  · left
    have : xs = [] := by simpa [bs] using e
    subst this; simp
  · refine Or.inr ⟨b, off, e, fun j v hv => hc j v ?_⟩
    have hj := (List.getElem?_eq_some_iff.1 hv).1
    rw [bs_length, List.length_take] at hj
    rw [bs, List.getElem?_map, List.getElem?_take, if_pos (by omega)] at hv
    rw [bs, List.getElem?_map]; exact hv

set_option maxHeartbeats 2000000 in
set_option maxRecDepth 100000 in
theorem Sl.put {w : World} {e : TypeId} {g off n c k : Nat} {vs : List Value} (h : Sl w e 1 (.slice (some ⟨g, off, none⟩) n c) n vs) (hk : k < n) (v : Value) :
    Sl (w.setCell ⟨g, off + k, none⟩ v) e 1 (.slice (some ⟨g, off, none⟩) n c) n (vs.set k v) ∧ Keep [g] w (w.setCell ⟨g, off + k, none⟩ v) ∧ w.frozen? ⟨g, off + k, none⟩ = false ∧ w.cell? ⟨g, off + k, none⟩ = vs[k]? := by
  have hl := h.1
  rcases h.2 with ⟨h1, h2⟩ | ⟨g', cap, pre, post, h1, hb, r⟩
  · cases h1
  · simp only [Value.slice.injEq, Option.some.injEq, Addr.mk.injEq, and_true, true_and] at h1
    obtain ⟨⟨rfl, rfl⟩, rfl⟩ := h1
    have hs := hb.set (pre.length + k) v
    have e : (pre ++ (vs ++ post)).toArray.setIfInBounds (pre.length + k) v = (pre ++ (vs.set k v ++ post)).toArray := by
      apply Array.ext'
      rw [Array.toList_setIfInBounds, List.toList_toArray, List.set_append_right _ _ (by omega), Nat.add_sub_cancel_left, List.set_append_left _ _ (by omega)]
    rw [e] at hs
    refine ⟨⟨by simpa using hl, Or.inr ⟨g, c, pre, post, rfl, hs, by simpa using r⟩⟩, Keep.set_one w ⟨g, pre.length + k, none⟩ v, hb.free, ?_⟩
    have hv : k < vs.length := by omega
    rw [List.getElem?_eq_getElem hv]
    refine hb.cell ?_
    rw [List.getElem?_toArray, List.getElem?_append_right (by omega), Nat.add_sub_cancel_left, List.getElem?_append_left hv, List.getElem?_eq_getElem hv]
theorem bs_set (xs : List UInt8) (k : Nat) (y : UInt8) : (bs xs).set k (B8 y) = bs (xs.set k y) := by rw [bs, bs, List.map_set]
theorem u8_xor_nat (a b : Nat) (ha : a < 256) (hb : b < 256) : bits .xor .u8 (a : Int) (b : Int) = ((a ^^^ b : Nat) : Int) := by
  have hx : a ^^^ b < 2 ^ 8 := Nat.xor_lt_two_pow (by omega) (by omega)
  have o8 : ∀ c : Nat, c < 256 → (BitVec.ofInt 8 (c : Int)).toNat = c := fun c hc => by
    rw [BitVec.ofInt_natCast, BitVec.toNat_ofNat]; exact Nat.mod_eq_of_lt (by omega)
  show IntKind.u8.wrap ((BitVec.ofInt 8 (a : Int) ^^^ BitVec.ofInt 8 (b : Int)).toNat : Int) = _
  rw [BitVec.toNat_xor, o8 a ha, o8 b hb]
  simp only [IntKind.wrap_u8]; omega
def turnB (x : UInt8) : UInt8 := x ^^^ 1
theorem turn_bits (x : UInt8) : bits .xor .u8 (x.toNat : Int) 1 = ((turnB x).toNat : Int) := by
  have := u8_xor_nat x.toNat 1 x.toNat_lt (by omega)
  rw [turnB, UInt8.toNat_xor]; exact this
theorem fr_old {w : World} {S : List Nat} (f : Fr w [] S) : ∀ b ∈ S, w.heap.size ≤ b := fun b hb => by
  rcases f b hb with h | h
  · cases h
  · exact h
theorem fr_ne {w w' : World} {b g : Nat} {v : Value} (h : Fr w' [] (blks v)) (hb : b ∈ blks v) (hg : g < w'.heap.size) : g ≠ b := by
  have := fr_old h b hb; omega
theorem splice {P M S X row : List Value} {o : Nat} (h : row = P ++ (M ++ S)) (ho : P.length = o) (hx : X.length = M.length) : row.take o ++ X ++ row.drop (o + X.length) = P ++ (X ++ S) := by
  subst ho; rw [h, hx, List.take_left, ← List.append_assoc P M S, ← List.length_append, List.drop_left, List.append_assoc]
theorem setCells_row {w : World} {b o : Nat} {row P M S vs : List Value} {t : TypeId} (h : Blk w b row.toArray t) (hrow : row = P ++ (M ++ S)) (hP : P.length = o) (hl : vs.length = M.length) (h1 : ∀ v ∈ vs, v.oneCell' = true) :
    w.there b o vs.length ∧ Blk (w.setCells b o vs) b (P ++ (vs ++ S)).toArray t ∧ Keep [b] w (w.setCells b o vs) := by
  have hsz : o + vs.length ≤ row.toArray.size := by rw [hrow]; simp; omega
  have hin : ∀ j, j < vs.length → (w.cell? ⟨b, o + j, none⟩).isSome = true := fun j hj => by
    rw [h.cell (i := o + j) (v := row[o + j]'(by simp at hsz; omega)) (by simp)]; rfl
  have r1 := run_storeCells_cells (P := Try.prog) b o vs 0 w (fun j hj => by simpa using hin j hj) (fun j hj => h.free) h1
  have r2 := run_storeCells_at Try.prog b o t vs 0 row.toArray w h (by simpa using hsz) h1
  rw [r1] at r2
  have e : w.setCells b o vs = w.setRow b (row.take o ++ vs ++ row.drop (o + vs.length)).toArray := by simpa using r2
  refine ⟨fun j hj => ⟨hin j hj, h.free⟩, ?_, ?_⟩
  · rw [e, splice hrow hP hl]; exact h.setRow _
  · rw [e]; exact (Keep.refl [b] w).setRow (Or.inl (by simp)) _
theorem Sl.splice {w : World} {e : TypeId} {sz g off n c o : Nat} {vs P M S news : List Value} (h : Sl w e sz (.slice (some ⟨g, off, none⟩) n c) n vs) (hv : vs = P ++ (M ++ S)) (ho : off + P.length = o) (hl : news.length = M.length) (h1 : ∀ v ∈ news, v.oneCell' = true) :
    w.there g o news.length ∧ Sl (w.setCells g o news) e sz (.slice (some ⟨g, off, none⟩) n c) n (P ++ (news ++ S)) ∧ Keep [g] w (w.setCells g o news) := by
  have hlen := h.1
  rcases h.2 with ⟨h1, h2⟩ | ⟨g', cap, pre, post, e1, hb, r⟩
  · cases h1
  · simp only [Value.slice.injEq, Option.some.injEq, Addr.mk.injEq, and_true, true_and] at e1
    obtain ⟨⟨rfl, rfl⟩, rfl⟩ := e1
    obtain ⟨ht, hB, hk⟩ := setCells_row (vs := news) (P := pre ++ P) (M := M) (S := S ++ post) (o := o) hb (by rw [hv]; simp) (by rw [List.length_append]; exact ho) hl h1
    have e2 : (pre ++ P) ++ (news ++ (S ++ post)) = pre ++ ((P ++ (news ++ S)) ++ post) := by simp
    have e3 : (P ++ (news ++ S)).length = vs.length := by rw [hv]; simp [hl]
    rw [e2] at hB
    exact ⟨ht, ⟨by rw [e3]; exact hlen, Or.inr ⟨g, c, pre, post, rfl, hB, by rw [e3]; exact r⟩⟩, hk⟩
theorem Sl.putC {w : World} {e : TypeId} {sz g off n c k : Nat} {vs : List Value} (h : Sl w e sz (.slice (some ⟨g, off, none⟩) n c) n vs) (hk : k < vs.length) (v : Value) :
    Sl (w.setCell ⟨g, off + k, none⟩ v) e sz (.slice (some ⟨g, off, none⟩) n c) n (vs.set k v) ∧ Keep [g] w (w.setCell ⟨g, off + k, none⟩ v) ∧ w.frozen? ⟨g, off + k, none⟩ = false := by
  have hl := h.1
  rcases h.2 with ⟨h1, h2⟩ | ⟨g', cap, pre, post, h1, hb, r⟩
  · cases h1
  · simp only [Value.slice.injEq, Option.some.injEq, Addr.mk.injEq, and_true, true_and] at h1
    obtain ⟨⟨rfl, rfl⟩, rfl⟩ := h1
    have hs := hb.set (pre.length + k) v
    have e : (pre ++ (vs ++ post)).toArray.setIfInBounds (pre.length + k) v = (pre ++ (vs.set k v ++ post)).toArray := by
      apply Array.ext'
      rw [Array.toList_setIfInBounds, List.toList_toArray, List.set_append_right _ _ (by omega), Nat.add_sub_cancel_left, List.set_append_left _ _ (by omega)]
    rw [e] at hs
    exact ⟨⟨by simpa using hl, Or.inr ⟨g, c, pre, post, rfl, hs, by simpa using r⟩⟩, Keep.set_one w ⟨g, pre.length + k, none⟩ v, hb.free⟩
theorem info5 : (Try.prog.info? 5).map (fun i => (i.zero, i.size, i.bytes)) = some (some (.int .u8 0), 1, 1) := by kernel_rfl
theorem size5 : (Try.prog.info? 5).map (·.size) = some 1 := by kernel_rfl
end Go.Proofs.Ytpocegdlobnhaaa

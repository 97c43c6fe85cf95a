/- A signature laid, stored, handed back; signatures as Sign makes them. -/
import Derived.Test.YtpocegdlobnhaaaSu
import Derived.Test.YtpocegdlobnhaaaNa
import Derived.Test.YtpocegdlobnhaaaDV
import Derived.Test.YtpocegdlobnhaaaRE
set_option linter.unusedVariables false
set_option linter.unusedSimpArgs false
set_option maxRecDepth 100000
namespace Go.Proofs.Ytpocegdlobnhaaa
open Go.RowKit
theorem set_blk {w : World} {p : Nat} {t : TypeId} {cs old : List Value} (hB : Blk w p old.toArray t) (hl : old.length = cs.length) (h1 : ∀ v ∈ cs, v.oneCell' = true) : w.there p 0 cs.length ∧ Blk (w.setCells p 0 cs) p cs.toArray t ∧ Keep [p] w (w.setCells p 0 cs) := by
  have := setCells_row (vs := cs) (P := []) (M := old) (S := []) (o := 0) hB (by simp) rfl hl.symm h1
  simpa using this
theorem wpList_storeAll {ops : Array Oper} {rest : List Oper} {o : Oper} {a : Act} {w : World} {Q : Exit → Act → World → Prop} (hgd : o.guard = none) (ty : TypeId) (x y : Operand) (ho : o.op = .store ty x y) (p : Nat) (t : TypeId) (cs old : List Value)
    (hx : a.eval x = .pointer (some ⟨p, 0, none⟩)) (hy : a.eval y = .agg cs.toArray) (hB : Blk w p old.toArray t) (hl : old.length = cs.length) (h1 : ∀ v ∈ cs, v.oneCell' = true) (hi : (Try.prog.info? ty).map (·.size) = some cs.length)
    (h : ∀ w', Blk w' p cs.toArray t → Keep [p] w w' → wpList Try.prog ops Q rest (a.put o.dst undef) w') : wpList Try.prog ops Q (o :: rest) a w := by
  obtain ⟨ht, hb, hk⟩ := set_blk hB hl h1
  exact wpList_store_mid hgd ty x y ho p 0 cs.toArray hx hy (by simpa using ht) (by simpa using hi) (all_oneCell_toArray h1) (h _ (by simpa using hb) (by simpa using hk))
theorem results_cellt {P : Program} {fn : Func} {p u : Tmp} {ty : TypeId} (h : fn.results = #[.cell p ty, .tmp u]) (tmps : Array Value) (w : World) (g : Nat) (t : TypeId) (cs : Array Value) (fr : Nat × Nat) (d : TypeDesc)
    (hp : tmps.getD p undef = .pointer (some ⟨g, 0, none⟩)) (hg : w.heap[g]? = some (.cells cs t fr))
    (hu : P.underlying ty = some d) (hd : (match d with | .struct _ | .array _ _ => true | _ => false) = true) (hi : (P.info? ty).map (·.size) = some cs.size) (b : Value) (hb : tmps.getD u undef = b) :
    (results fn tmps).run P w = .ok (.tuple #[.agg cs, b]) w := by
  have hp' : tmps[p]?.getD undef = .pointer (some ⟨g, 0, none⟩) := by simpa using hp
  have hb' : tmps[u]?.getD undef = b := by simpa using hb
  simp [results, h, hp', hb', asAddr, run_loadVar_row w g t ty cs fr d hg hu hd hi]
def zeroG : Sg := ⟨0, 0, 0, List.replicate 32 0, [], by simp⟩
theorem built_zero29 : Try.prog.built 29 [] = some (zeroG.cells none 0 0).toArray := by kernel_rfl
theorem wpList_built0 {P : Program} {ops : Array Oper} {rest : List Oper} {o : Oper} {a : Act} {w : World} {Q : Exit → Act → World → Prop} (hg : o.guard = none) (t : TypeId) (ho : o.op = .build t #[]) (cells : Array Value) (hb : P.built t [] = some cells)
    (h : wpList P ops Q rest (a.put o.dst (.agg cells)) w) : wpList P ops Q (o :: rest) a w := by
  have e : ((#[] : Array (Nat × Operand)).map fun (i, x) => (i, a.eval x)).toList = [] := by simp
  refine wpList_build hg t #[] ho (by rw [e, hb]; rfl) ?_
  rw [e, hb]; exact h
/-- The k-th window of that many bytes, none within another. -/
def blkAt (wd : Int) (d : List UInt8) (sz k : Nat) : Wk := ⟨Rol.sumOf ((d.drop (k * sz)).take sz), Dig.shaId wd ((d.drop (k * sz)).take sz), Dig.shaId_length _ _⟩
def signBl (wd : Int) (d : List UInt8) (sz n : Nat) : List Wk := (List.range n).map (blkAt wd d sz)
theorem signBl_len (wd : Int) (d : List UInt8) (sz n : Nat) : (signBl wd d sz n).length = n := by simp [signBl]
theorem signBl_succ (wd : Int) (d : List UInt8) (sz n : Nat) : signBl wd d sz (n + 1) = signBl wd d sz n ++ [blkAt wd d sz n] := by simp [signBl, List.range_succ]
def signR (wd : Int) (d : List UInt8) (sz n : Nat) : Sg := ⟨wd, sz, d.length, Dig.shaId wd d, signBl wd d sz n, Dig.shaId_length _ _⟩
def signC (wd : Int) (d : List UInt8) (sz : Int) : Int := if (okW wd && okS sz) = true then (if 131072 < d.length then 2 else if 2048 < (d.length : Int) / sz then 183 else 0) else 1
def signS (wd : Int) (d : List UInt8) (sz : Int) : Sg := if signC wd d sz = 0 then signR wd d sz.toNat (d.length / sz.toNat) else zeroG
/-- A signature and a code, given. -/
def GiveG (w : World) (s : Sg) (code : Int) (e : Ending) (w' : World) : Prop :=
  ∃ a n c, e = .returned (.tuple #[.agg (s.cells a n c).toArray, .int .i64 code]) ∧ s.blocks.length = n ∧ Sl w' 45 33 (.slice a n c) n (cellsW s.blocks) ∧ Fr w [] (blks (.slice a n c)) ∧ Keep [] w w'
theorem GiveG.none {w w' : World} {code : Int} (k : Keep [] w w') : GiveG w zeroG code (.returned (.tuple #[.agg (zeroG.cells none 0 0).toArray, .int .i64 code])) w' :=
  ⟨Option.none, 0, 0, rfl, rfl, Sl.nil _ _ _, by intro b hb; simp [blks, Value.ownBlock] at hb, k⟩
theorem built_sg (wd sz ln : Int) (xs : List UInt8) (h : xs.length = 32) : Try.prog.built 29 [(0, .int .i64 wd), (1, .int .i64 sz), (2, .int .i64 ln), (3, .agg (bs xs).toArray)] = some ((Sg.mk wd sz ln xs [] h).cells none 0 0).toArray :=
  match xs, h with
  | [a0, a1, a2, a3, a4, a5, a6, a7, a8, a9, a10, a11, a12, a13, a14, a15, a16, a17, a18, a19, a20, a21, a22, a23, a24, a25, a26, a27, a28, a29, a30, a31], h => by kernel_rfl
theorem built_wk (s : Int) (xs : List UInt8) (h : xs.length = 32) : Try.prog.built 45 [(0, .int .i64 s), (1, .agg (bs xs).toArray)] = some (Wk.mk s xs h).cells.toArray :=
  match xs, h with
  | [a0, a1, a2, a3, a4, a5, a6, a7, a8, a9, a10, a11, a12, a13, a14, a15, a16, a17, a18, a19, a20, a21, a22, a23, a24, a25, a26, a27, a28, a29, a30, a31], h => by kernel_rfl
theorem info45 : (Try.prog.info? 45).map (fun i => (i.zero, i.size, i.bytes)) = some (some (.agg (Wk.mk 0 (List.replicate 32 0) (by simp)).cells.toArray), 33, 40) := by kernel_rfl
theorem zeroC45 : (Value.agg (Wk.mk 0 (List.replicate 32 0) (by simp)).cells.toArray).cells.size = 33 := rfl
theorem wk_len1 (x : Wk) : x.cells.length = 1 * 33 := by rw [x.len]
theorem after_buildW {w : World} {x : Wk} {v : Value} {n : Nat} {vs : List Value} (s : Sl w 45 33 v n vs) :
    Sl (w.alloc (.cells x.cells.toArray 45)) 45 33 v n vs ∧ Rd (w.alloc (.cells x.cells.toArray 45)) (some ⟨w.heap.size, 0, none⟩) x.cells ∧ Keep [] w (w.alloc (.cells x.cells.toArray 45)) :=
  ⟨s.keep ((Keep.refl [] w).alloc _) (by simp), Rd.of_blk (Blk.new w _ 45) 0 (fun j v hj => by rw [Nat.zero_add]; exact hj), (Keep.refl [] w).alloc _⟩
/-- One piece, at a block of its own. -/
theorem rows_one {W : World} {q n c : Nat} {a : Option Addr} {xs : List UInt8} (hB : Blk W q #[.slice a n c] 22) (h : InBytes W a n c xs) : Dig.RowsAt W (some ⟨q, 0, none⟩) 1 [.slice a n c] [xs] := by
  refine ⟨rfl, rfl, Or.inr ⟨q, 0, rfl, fun k v hv => ?_⟩, fun i hi => ?_⟩
  · rw [Nat.zero_add]; exact hB.cell (by simpa using hv)
  · obtain rfl : i = 0 := by simp at hi; exact hi
    exact ⟨a, n, c, rfl, h⟩
theorem of_one (wd : Int) {W : World} {q n c : Nat} {a : Option Addr} {xs : List UInt8} (hB : Blk W q #[.slice a n c] 22) (h : InBytes W a n c xs) :
    Calls Try.prog 43 #[.int .i64 wd, .slice (some ⟨q, 0, none⟩) 1 1] W fun e w' => e = .returned (.agg (bs (Dig.shaId wd xs)).toArray) ∧ Keep [] W w' := by
  have := Dig.of_any wd (some ⟨q, 0, none⟩) 1 1 _ [xs] W (rows_one hB h) (by omega)
  simpa using this
/-- A part of a row. -/
theorem in_part {W : World} {a : Option Addr} {n c o m : Nat} {d : List UInt8} (h : InBytes W a n c d) (hm : o + m ≤ n) (h0 : 0 < m) : ∃ b off, a = some ⟨b, off, none⟩ ∧ InBytes W (some ⟨b, off + o, none⟩) m (c - o) ((d.drop o).take m) := by
  have hl := h.hlen
  obtain ⟨b, off, rfl, -⟩ := h.rd.byte (k := 0) (by omega)
  refine ⟨b, off, rfl, ⟨by rw [List.length_take, List.length_drop]; omega, ?_, by have := h.hle; omega, (fun e => by cases e), by have := h.reach; omega, by have := h.short; omega⟩⟩
  rcases h.rd with e | ⟨b', off', e, hc⟩
  · have := congrArg List.length e
    rw [bs_length, List.length_nil] at this; omega
  · obtain ⟨rfl, rfl⟩ : b = b' ∧ off = off' := by simpa using e
    refine Or.inr ⟨b, off + o, rfl, fun k v hv => ?_⟩
    have hk := (List.getElem?_eq_some_iff.1 hv).1
    rw [bs_length, List.length_take, List.length_drop] at hk
    rw [Nat.add_assoc]
    refine hc (o + k) v ?_
    rw [bs, List.getElem?_map] at hv ⊢
    rw [List.getElem?_take, if_pos (by omega), List.getElem?_drop] at hv
    exact hv
theorem wpList_built4 {P : Program} {ops : Array Oper} {rest : List Oper} {o : Oper} {a : Act} {w : World} {Q : Exit → Act → World → Prop} (hg : o.guard = none) (t : TypeId) (x y z u : Operand) (ho : o.op = .build t #[(0, x), (1, y), (2, z), (3, u)]) (vx vy vz vu : Value) (hx : a.eval x = vx) (hy : a.eval y = vy) (hz : a.eval z = vz) (hu : a.eval u = vu) (cells : Array Value) (hb : P.built t [(0, vx), (1, vy), (2, vz), (3, vu)] = some cells)
    (h : wpList P ops Q rest (a.put o.dst (.agg cells)) w) : wpList P ops Q (o :: rest) a w := by
  have e : ((#[(0, x), (1, y), (2, z), (3, u)] : Array (Nat × Operand)).map fun (i, x) => (i, a.eval x)).toList = [(0, vx), (1, vy), (2, vz), (3, vu)] := by simp [hx, hy, hz, hu]
  refine wpList_build hg t #[(0, x), (1, y), (2, z), (3, u)] ho (by rw [e, hb]; rfl) ?_
  rw [e, hb]; exact h
section
variable {ops : Array Oper} {o : Oper} {a : Act} {w : World} {K : Act → World → Prop} {Q : Exit → Act → World → Prop} {E : Prop}
theorem step_buildS (hgd : o.guard = none) (x : Operand) (ho : o.op = .buildSlice 124 1 #[(0, x)]) (ad : Option Addr) (n c : Nat) (hx : a.eval x = .slice ad n c)
    (h : ∀ q wN, w.heap.size ≤ q → Blk wN q #[.slice ad n c] 22 → Keep [] w wN → K (a.put o.dst (.slice (some ⟨q, 0, none⟩) 1 1)) wN) : if Region.wanted o (yielded ops a.tmps) = true then Oper.wp Try.prog o a w K Q else E :=
  step_of hgd (wp_buildS 124 22 x ho ad n c hx (.slice none 0 0) 24 Try.underlying124 info22 rfl (h _ _ (Nat.le_refl _) (Blk.new _ _ _) ((Keep.refl [] w).alloc _)))
theorem step_built2 (hgd : o.guard = none) (t : TypeId) (x y : Operand) (ho : o.op = .build t #[(0, x), (1, y)]) (u v : Value) (hx : a.eval x = u) (hy : a.eval y = v) (cells : Array Value) (hb : Try.prog.built t [(0, u), (1, v)] = some cells)
    (h : K (a.put o.dst (.agg cells)) w) : if Region.wanted o (yielded ops a.tmps) = true then Oper.wp Try.prog o a w K Q else E := by
  have e : ((#[(0, x), (1, y)] : Array (Nat × Operand)).map fun (i, x) => (i, a.eval x)).toList = [(0, u), (1, v)] := by simp [hx, hy]
  refine step_of hgd (wp_build t #[(0, x), (1, y)] ho (by rw [e, hb]; rfl) ?_)
  rw [e, hb]; exact h
theorem step_buildW (hgd : o.guard = none) (x : Operand) (ho : o.op = .buildSlice 27 1 #[(0, x)]) (y : Wk) (hx : a.eval x = .agg y.cells.toArray)
    (h : ∀ q wN, w.heap.size ≤ q → Rd wN (some ⟨q, 0, none⟩) y.cells → Keep [] w wN → K (a.put o.dst (.slice (some ⟨q, 0, none⟩) 1 1)) wN) : if Region.wanted o (yielded ops a.tmps) = true then Oper.wp Try.prog o a w K Q else E := by
  refine step_build1 hgd 27 45 x ho y.cells.toArray hx _ 33 40 Try.underlying27 info45 (by simp [y.len]) (by omega) (by omega) (h _ _ (Nat.le_refl _) ?_ ((Keep.refl [] w).alloc _))
  exact Rd.of_blk (Blk.new w _ 45) 0 (fun j v hj => by rw [Nat.zero_add]; exact hj)
end
theorem sg_cells_blocks (s : Sg) (l : List Wk) (a : Option Addr) (n c : Nat) : (Sg.mk s.width s.size s.length s.base l s.lb).cells a n c = s.cells a n c := rfl
theorem sg_set35 (s : Sg) (a a' : Option Addr) (n n' c c' : Nat) : (s.cells a n c).toArray.setIfInBounds 35 (.slice a' n' c') = (s.cells a' n' c').toArray := by
  apply Array.ext'
  rw [Array.toList_setIfInBounds]
  show (Value.int .i64 s.width :: .int .i64 s.size :: .int .i64 s.length :: (bs s.base ++ [.slice a n c])).set (32 + 1 + 1 + 1) _ = _
  rw [List.set_cons_succ, List.set_cons_succ, List.set_cons_succ, List.set_append_right _ _ (by rw [bs_length, s.lb]; exact Nat.le_refl _), bs_length, s.lb]
  rfl
end Go.Proofs.Ytpocegdlobnhaaa

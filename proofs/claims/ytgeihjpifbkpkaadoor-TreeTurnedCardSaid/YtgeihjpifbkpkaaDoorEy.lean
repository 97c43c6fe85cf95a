/- What a reader takes for an entry: plain; and the steps of its walk. -/
import Derived.Test.YtgeihjpifbkpkaaDoorCq
import Derived.Laws.IdiomStrings
import Derived.Laws.BytesArg
set_option linter.unusedVariables false
set_option linter.unusedSimpArgs false
namespace Go.Proofs.YtgeihjpifbkpkaaDoor
open Go.RowKit

def pad32 (xs : List UInt8) : List UInt8 := (xs ++ List.replicate 32 0).take 32
theorem pad32_len (xs : List UInt8) : (pad32 xs).length = 32 := by simp [pad32]
theorem pad32_eq {xs : List UInt8} (h : xs.length ≤ 32) : pad32 xs = xs ++ List.replicate (32 - xs.length) 0 := by
  rw [pad32, List.take_append, List.take_of_length_le h, List.take_replicate]; congr 2; omega
theorem pad32_full {xs : List UInt8} (h : xs.length = 32) : pad32 xs = xs := by rw [pad32_eq (by omega), h]; simp
theorem pad32_nil : pad32 [] = List.replicate 32 0 := rfl
/-- An entry, its id not laid yet. -/
def ent0 (nm : ByteArray) (k : Int) : Ent := ⟨nm, k, List.replicate 32 0, by simp⟩
def entP (nm : ByteArray) (k : Int) (xs : List UInt8) : Ent := ⟨nm, k, pad32 xs, pad32_len xs⟩
theorem setCells_row {w : World} {b o : Nat} {row P M S vs : List Value} {t : TypeId} (h : Blk w b row.toArray t) (hrow : row = P ++ (M ++ S)) (hP : P.length = o) (hl : vs.length = M.length) (h1 : ∀ v ∈ vs, v.oneCell' = true) :
    w.there b o vs.length ∧ Blk (w.setCells b o vs) b (P ++ (vs ++ S)).toArray t ∧ Keep [b] w (w.setCells b o vs) := by
  have hsz : o + vs.length ≤ row.toArray.size := by rw [hrow]; simp; omega
  have hin : ∀ j, j < vs.length → (w.cell? ⟨b, o + j, none⟩).isSome = true := fun j hj => by
    rw [h.cell (i := o + j) (v := row[o + j]'(by simp at hsz; omega)) (by simp)]; rfl
  have r1 := run_storeCells_cells (P := Tryd.prog) b o vs 0 w (fun j hj => by simpa using hin j hj) (fun j hj => h.free) h1
  have r2 := run_storeCells_at Tryd.prog b o t vs 0 row.toArray w h (by simpa using hsz) h1
  rw [r1] at r2
  have e : w.setCells b o vs = w.setRow b (row.take o ++ vs ++ row.drop (o + vs.length)).toArray := by simpa using r2
  refine ⟨fun j hj => ⟨hin j hj, h.free⟩, ?_, ?_⟩
  · rw [e, splice hrow hP hl]; exact h.setRow _
  · rw [e]; exact (Keep.refl [b] w).setRow (Or.inl (by simp)) _
theorem built_ent (s : ByteArray) (k : Int) : Tryd.prog.built 37 [(1, .int .i64 k), (0, .string s)] = some (ent0 s k).cells.toArray := by kernel_rfl
theorem under26 : Tryd.prog.underlying 26 = some (.slice 5) := by kernel_rfl
theorem str_of (w : World) (a : Option Addr) (n c : Nat) (xs : List UInt8) (hl : xs.length = n) (h : Sl w 5 1 (.slice a n c) n (bs xs)) : (convert 26 9 (.slice a n c)).run Tryd.prog w = .ok (.string ⟨xs.toArray⟩) w := by
  obtain ⟨a', c', e, ea, hrd, hle, hm, hnil⟩ := h.form
  obtain ⟨rfl, rfl⟩ : a = a' ∧ c = c' := by simpa using e
  cases a with
  | none =>
    have hc := hnil rfl
    have hn : n = 0 := by omega
    have e0 : xs = [] := List.eq_nil_of_length_eq_zero (by omega)
    subst e0
    exact run_convert_bytes_nil (P := Tryd.prog) (w := w) 26 5 Tryd.underlying26 Tryd.underlying5 n c 9 Tryd.underlying9
  | some ad =>
    subst hl
    refine run_convert_bytes_back (P := Tryd.prog) w 26 9 5 ad c xs Tryd.underlying26 Tryd.underlying5 Tryd.underlying9 (fun j hj => ?_)
    rcases hrd with e | ⟨b, o', e, hc⟩
    · have : xs = [] := by simpa [bs] using e
      rw [this] at hj; simp at hj
    · have e' : ad = ⟨b, o', none⟩ := by simpa using e
      rw [e', add_off]; exact hc j _ (by simp [bs, List.getElem?_eq_getElem hj])
section
variable {ops : Array Oper} {o : Oper} {a : Act} {w : World} {K : Act → World → Prop} {Q : Exit → Act → World → Prop} {E : Prop}
theorem step_strB (hgd : o.guard = none) (x : Operand) (ho : o.op = .convert 26 9 x) (ad : Option Addr) (n c : Nat) (xs : List UInt8) (hx : a.eval x = .slice ad n c) (hl : xs.length = n) (hs : Sl w 5 1 (.slice ad n c) n (bs xs))
    (h : K (a.put o.dst (.string ⟨xs.toArray⟩)) w) : if Region.wanted o (yielded ops a.tmps) = true then Oper.wp Tryd.prog o a w K Q else E := by
  have hw : Region.wanted o (yielded ops a.tmps) = true := by simp [Region.wanted, hgd]
  rw [if_pos hw]
  unfold Oper.wp execOp
  simp only [ho, hx, Sem.run_bind, Sem.run_pure, str_of w ad n c xs hl hs, Result.andThen_ok]
  exact h
theorem step_buildE (hgd : o.guard = none) (x y : Operand) (ho : o.op = .build 37 #[(1, x), (0, y)]) (k : Int) (s : ByteArray) (hx : a.eval x = .int .i64 k) (hy : a.eval y = .string s)
    (h : K (a.put o.dst (.agg (ent0 s k).cells.toArray)) w) : if Region.wanted o (yielded ops a.tmps) = true then Oper.wp Tryd.prog o a w K Q else E := by
  have hw : Region.wanted o (yielded ops a.tmps) = true := by simp [Region.wanted, hgd]
  rw [if_pos hw]
  have e : ((#[(1, x), (0, y)] : Array (Nat × Operand)).map fun (i, x) => (i, a.eval x)).toList = [(1, .int .i64 k), (0, .string s)] := by simp [hx, hy]
  refine wp_build 37 #[(1, x), (0, y)] ho (by rw [e, built_ent]; rfl) ?_
  rw [e, built_ent]; exact h
theorem step_storeE (hgd : o.guard = none) (x y : Operand) (ho : o.op = .store 37 x y) (p : Nat) (z : Ent) (old : Array Value)
    (hx : a.eval x = .pointer (some ⟨p, 0, none⟩)) (hy : a.eval y = .agg z.cells.toArray) (hB : Blk w p old 37) (hsz : old.size = 34) (h : ∀ w', Blk w' p z.cells.toArray 37 → Keep [p] w w' → K (a.put o.dst undef) w') :
    if Region.wanted o (yielded ops a.tmps) = true then Oper.wp Tryd.prog o a w K Q else E := by
  have hw : Region.wanted o (yielded ops a.tmps) = true := by simp [Region.wanted, hgd]
  rw [if_pos hw]
  have hB' : Blk w p (old.toList).toArray 37 := by simpa using hB
  obtain ⟨ht, hb, hk⟩ := setCells_row (vs := z.cells) (P := []) (M := old.toList) (S := []) (o := 0) hB' (by simp) rfl (by rw [z.len, Array.length_toList, hsz]) z.one
  exact wp_store_mid 37 x y ho p 0 z.cells.toArray hx hy ht (hi37 z) (all_oneCell_toArray z.one) (h _ (by simpa using hb) hk)
end
theorem wpList_storeE {ops : Array Oper} {rest : List Oper} {o : Oper} {a : Act} {w : World} {Q : Exit → Act → World → Prop} (hgd : o.guard = none) (x y : Operand) (ho : o.op = .store 37 x y) (p : Nat) (z : Ent) (old : Array Value)
    (hx : a.eval x = .pointer (some ⟨p, 0, none⟩)) (hy : a.eval y = .agg z.cells.toArray) (hB : Blk w p old 37) (hsz : old.size = 34) (h : ∀ w', Blk w' p z.cells.toArray 37 → Keep [p] w w' → wpList Tryd.prog ops Q rest (a.put o.dst undef) w') : wpList Tryd.prog ops Q (o :: rest) a w := by
  have hB' : Blk w p (old.toList).toArray 37 := by simpa using hB
  obtain ⟨ht, hb, hk⟩ := setCells_row (vs := z.cells) (P := []) (M := old.toList) (S := []) (o := 0) hB' (by simp) rfl (by rw [z.len, Array.length_toList, hsz]) z.one
  exact wpList_store_mid hgd 37 x y ho p 0 z.cells.toArray hx hy ht (hi37 z) (all_oneCell_toArray z.one) (h _ (by simpa using hb) hk)
theorem size5 : (Tryd.prog.info? 5).map (·.size) = some 1 := by kernel_rfl
theorem zero37 : (Tryd.prog.info? 37).map (fun i => (i.zero, i.size)) = some (some (.agg (ent0 ⟨#[]⟩ 0).cells.toArray), 34) := by kernel_rfl
theorem run_zero37 (w : World) : (zeroValue 37).run Tryd.prog w = .ok (.agg (ent0 ⟨#[]⟩ 0).cells.toArray) w := by
  cases hq : Tryd.prog.info? 37 with
  | none => have h := zero37; simp [hq] at h
  | some i =>
    have h := zero37
    have hz : i.zero = some (.agg (ent0 ⟨#[]⟩ 0).cells.toArray) := by simp [hq] at h; exact h.1
    simp [zeroValue, typeInfo, hq, hz]
theorem step_allocE {ops : Array Oper} {o : Oper} {a : Act} {w : World} {K : Act → World → Prop} {Q : Exit → Act → World → Prop} {E : Prop} (hgd : o.guard = none) (ho : o.op = .alloc 37)
    (h : ∀ p w', w.heap.size ≤ p → Blk w' p (ent0 ⟨#[]⟩ 0).cells.toArray 37 → Keep [] w w' → K (a.put o.dst (.pointer (some ⟨p, 0, none⟩))) w') :
    if Region.wanted o (yielded ops a.tmps) = true then Oper.wp Tryd.prog o a w K Q else E := by
  have hw : Region.wanted o (yielded ops a.tmps) = true := by simp [Region.wanted, hgd]
  rw [if_pos hw]
  unfold Oper.wp execOp
  simp [ho, Instr.alloc, newVar, newRow, run_zero37]
  exact h w.heap.size _ (Nat.le_refl _) (Blk.new _ _ _) ((Keep.refl [] w).alloc _)
theorem copy_part (w : World) (p o q c : Nat) (a : Option Addr) (xs : List UInt8) (Pp Sf : List Value) (hB : Blk w p (Pp ++ (bs (List.replicate 32 0) ++ Sf)).toArray 37) (hP : Pp.length = o) (hs : Sl w 5 1 (.slice a q c) q (bs xs)) (hx : xs.length = q) (hq : q ≤ 32) :
    ∃ w', (∀ ty, (Builtin.copy_ #[26, 26] ty #[.slice (some ⟨p, o, none⟩) 32 32, .slice a q c]).run Tryd.prog w = .ok (goInt (q : Nat)) w') ∧ (Blk w' p (Pp ++ (bs (pad32 xs) ++ Sf)).toArray 37 ∧ Keep [p] w w') := by
  obtain ⟨a', c', e, ea, hrd, hle, hm, hnil⟩ := hs.form
  obtain ⟨rfl, rfl⟩ : a = a' ∧ c = c' := by simpa using e
  have hpad : bs (pad32 xs) = bs xs ++ bs (List.replicate (32 - q) 0) := by rw [pad32_eq (by omega), bs_append, hx]
  have hz : bs (List.replicate 32 0) = bs (List.replicate q 0) ++ bs (List.replicate (32 - q) 0) := by rw [← bs_append, List.replicate_append_replicate]; congr 2; omega
  cases a with
  | none =>
    have hc := hnil rfl
    obtain rfl : q = 0 := by omega
    subst hc
    have e0 : xs = [] := List.eq_nil_of_length_eq_zero hx
    subst e0
    refine ⟨w, fun ty => run_copy_nil (P := Tryd.prog) w 26 26 ty 5 _ 32 32 Tryd.underlying26 (by rw [size5]; rfl), ?_, Keep.refl _ _⟩
    have : pad32 [] = List.replicate 32 0 := rfl
    rw [this]; exact hB
  | some ad =>
    have hrd' : ∀ j v, (bs xs)[j]? = some v → w.cell? (ad.add j) = some v := fun j v hj => by
      rcases hrd with e | ⟨b, o', e, hc⟩
      · rw [e] at hj; simp at hj
      · have e' : ad = ⟨b, o', none⟩ := by simpa using e
        rw [e', add_off]; exact hc j v hj
    obtain ⟨w', h1, h2, h3⟩ := copy_blk w 26 26 5 1 p o 32 32 ad q c q (Pp ++ (bs (List.replicate 32 0) ++ Sf)) Pp (bs (List.replicate q 0)) (bs (List.replicate (32 - q) 0) ++ Sf) (bs xs) 37 Tryd.underlying26 size5 hB (Nat.min_eq_left hq) (by rw [bs_length, hx, Nat.mul_one]) hrd' (bs_one xs)
      (by rw [hz, List.append_assoc]) hP (by rw [bs_length, bs_length, List.length_replicate, hx])
    refine ⟨w', h1, ?_, h3⟩
    rw [hpad, List.append_assoc]; exact h2
theorem raw32 (P : Nat) (S : List Nat) (d : List UInt8) (s s' : RS) (xs : List UInt8) (h : rRaw d s 32 = (xs, s')) (W : World) (hR : RdAt W P S d s) :
    Calls Tryd.prog 53 #[.pointer (some ⟨P, 0, none⟩), .int .i64 32] W fun e w' => ∃ a q c, e = .returned (.slice a q c) ∧ xs.length = q ∧ q ≤ 32 ∧ Sl w' 5 1 (.slice a q c) q (bs xs) ∧ RdAt w' P S d s' ∧ Keep [P] W w' := by
  have hl : xs.length ≤ 32 := by
    have : xs = (rRaw d s 32).1 := by rw [h]
    rw [this, rRaw]
    split
    · split
      · simp
      · split
        · simp
        · simp; omega
    · simp
  have hg := rraw_any P S d s 32 W hR (by omega)
  rw [h] at hg
  refine hg.mono ?_
  rintro e w' ⟨a, c, rfl, s1, f, r, k⟩
  exact ⟨a, _, c, rfl, rfl, hl, s1, r, k⟩
theorem rText_short {d : List UInt8} {s s' : RS} {xs : List UInt8} (h : rText d s 32 = (xs, s')) : xs.length ≤ 32 := by
  have : xs = (rText d s 32).1 := by rw [h]
  rw [this, rText]
  split
  · split
    · simp
    · split
      · rename_i _ h1
        simp only [List.length_take, List.length_drop]
        unfold textC at h1
        by_cases h2 : (numP (d.drop s.at')).2.2 = 0
        · rw [if_pos h2] at h1
          by_cases h3 : (32 : Int) < ((numP (d.drop s.at')).1 : Int)
          · rw [if_pos h3] at h1; omega
          · omega
        · rw [if_neg h2] at h1; exact absurd h1 h2
      · simp
  · simp
theorem text32 (P : Nat) (S : List Nat) (d : List UInt8) (s s' : RS) (xs : List UInt8) (h : rText d s 32 = (xs, s')) (W : World) (hR : RdAt W P S d s) :
    Calls Tryd.prog 52 #[.pointer (some ⟨P, 0, none⟩), .int .i64 32] W fun e w' => ∃ a q c, e = .returned (.slice a q c) ∧ xs.length = q ∧ Sl w' 5 1 (.slice a q c) q (bs xs) ∧ RdAt w' P S d s' ∧ Keep [P] W w' := by
  have hg := rtext_any P S d s 32 W hR (by omega)
  rw [h] at hg
  refine hg.mono ?_
  rintro e w' ⟨a, c, rfl, s1, f, r, k⟩
  exact ⟨a, _, c, rfl, rfl, s1, r, k⟩
end Go.Proofs.YtgeihjpifbkpkaaDoor

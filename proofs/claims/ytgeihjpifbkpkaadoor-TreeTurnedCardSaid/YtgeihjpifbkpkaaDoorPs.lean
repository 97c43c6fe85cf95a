/- Parse of the program: what it takes (plain), and what lies while it goes. -/
import Derived.Test.YtgeihjpifbkpkaaDoorBu
set_option linter.unusedVariables false
set_option linter.unusedSimpArgs false
namespace Go.Proofs.YtgeihjpifbkpkaaDoor
open Go.RowKit

/-- May x stand behind these? -/
def upE (l : List Ent) (x : Ent) : Bool := match l.getLast? with | none => true | some y => ltE y x
def manyE (d : List UInt8) (s0 : RS) : Nat → Option (List Ent × RS)
  | 0 => some ([], s0)
  | k + 1 => match manyE d s0 k with
    | none => none
    | some (l, s) => if (takOk d s && upE l (takE d s).1) = true then some (l ++ [(takE d s).1], (takE d s).2) else none
theorem manyE_len {d : List UInt8} {s0 s : RS} : ∀ {k : Nat} {l : List Ent}, manyE d s0 k = some (l, s) → l.length = k := by
  intro k
  induction k generalizing s with
  | zero => intro l h; simp only [manyE, Option.some.injEq, Prod.mk.injEq] at h; rw [← h.1]; rfl
  | succ k ih =>
    intro l h
    rw [manyE] at h
    cases hm : manyE d s0 k with
    | none => rw [hm] at h; cases h
    | some q =>
      obtain ⟨l', s'⟩ := q
      rw [hm] at h
      simp only at h
      split at h
      · simp only [Option.some.injEq, Prod.mk.injEq] at h
        rw [← h.1, List.length_append, ih hm]; rfl
      · cases h
theorem manyE_no {d : List UInt8} {s0 s : RS} {k n : Nat} {l : List Ent} (h : manyE d s0 k = some (l, s)) (hb : (takOk d s && upE l (takE d s).1) = false) (hn : k < n) : manyE d s0 n = none := by
  induction n with
  | zero => omega
  | succ n ih =>
    rw [manyE]
    by_cases e : k = n
    · subst e; rw [h]; simp only; rw [hb]; rfl
    · rw [ih (by omega)]
theorem manyE_yes {d : List UInt8} {s0 s : RS} {k : Nat} {l : List Ent} (h : manyE d s0 k = some (l, s)) (hb : (takOk d s && upE l (takE d s).1) = true) : manyE d s0 (k + 1) = some (l ++ [(takE d s).1], (takE d s).2) := by
  rw [manyE, h]; simp only; rw [if_pos hb]
/-- What Parse of the program takes. -/
def parO (d : List UInt8) : Option (List Ent) :=
  if (rFixed d ⟨0, 0, 0⟩ 1).1 = 84 ∧ (rFixed d ⟨0, 0, 0⟩ 1).2.code = 0 then
    if (rNumber d (rFixed d ⟨0, 0, 0⟩ 1).2).1 ≤ 32 ∧ (rNumber d (rFixed d ⟨0, 0, 0⟩ 1).2).2.code = 0 then
      match manyE d (rNumber d (rFixed d ⟨0, 0, 0⟩ 1).2).2 (rNumber d (rFixed d ⟨0, 0, 0⟩ 1).2).1 with
      | none => none
      | some (l, s) => if rLeft d s = 0 ∧ s.code = 0 then some l else none
    else none
  else none
def parT (d : List UInt8) : List Ent := (parO d).getD []
def parC (d : List UInt8) : Int := if (parO d).isSome then 0 else 70
theorem par_no {d : List UInt8} (h : parO d = none) : parT d = [] ∧ parC d = 70 := by rw [parT, parC, h]; exact ⟨rfl, rfl⟩
theorem par_yes {d : List UInt8} {l : List Ent} (h : parO d = some l) : parT d = l ∧ parC d = 0 := by rw [parT, parC, h]; exact ⟨rfl, rfl⟩
/-- Entries and a code, given. -/
def GiveT (w : World) (l : List Ent) (code : Int) (e : Ending) (w' : World) : Prop :=
  ∃ a c, e = .returned (.tuple #[.slice a l.length c, .int .i64 code]) ∧ Sl w' 37 34 (.slice a l.length c) l.length (cellsOf l) ∧ Fr w [] (blks (.slice a l.length c)) ∧ Keep [] w w'
theorem GiveT.nil {w w' : World} {code : Int} (k : Keep [] w w') : GiveT w [] code (.returned (.tuple #[.slice none 0 0, .int .i64 code])) w' :=
  ⟨none, 0, rfl, Sl.nil _ _ _, by intro b hb; simp [blks, Value.ownBlock] at hb, k⟩
theorem info37 : (Tryd.prog.info? 37).map (fun i => (i.zero, i.size, i.bytes)) = some (some (.agg (ent0 ⟨#[]⟩ 0).cells.toArray), 34, 56) := by kernel_rfl
theorem zeroC37 : (Value.agg (ent0 ⟨#[]⟩ 0).cells.toArray).cells.size = 34 := rfl
theorem ent_len1 (x : Ent) : x.cells.length = 1 * 34 := by rw [x.len]
theorem after_build {w : World} {x : Ent} {v : Value} {n : Nat} {vs : List Value} (s : Sl w 37 34 v n vs) :
    Sl (w.alloc (.cells x.cells.toArray 37)) 37 34 v n vs ∧ Rd (w.alloc (.cells x.cells.toArray 37)) (some ⟨w.heap.size, 0, none⟩) x.cells ∧ Keep [] w (w.alloc (.cells x.cells.toArray 37)) :=
  ⟨s.keep ((Keep.refl [] w).alloc _) (by simp), Rd.of_blk (Blk.new w _ 37) 0 (fun j v hj => by rw [Nat.zero_add]; exact hj), (Keep.refl [] w).alloc _⟩

/-- Which blocks are whose: the two results' (A, B), the reader's box (C), the reader's own (P, S). -/
structure PF (w : World) (A B C P : Nat) (S : List Nat) : Prop where
  a : w.heap.size ≤ A
  b : w.heap.size ≤ B
  c : w.heap.size ≤ C
  s : ∀ x ∈ S, w.heap.size ≤ x
  p : P ∈ S
  ab : A ≠ B
  ac : A ≠ C
  bc : B ≠ C
  na : A ∉ S
  nb : B ∉ S
  nc : C ∉ S
/-- What lies while it goes. -/
structure PS (w : World) (A B C P : Nat) (S : List Nat) (d : List UInt8) (s : RS) (v : Value) (W : World) : Prop where
  ba : Blk W A #[v] 24
  bb : Blk W B #[.int .i64 0] 27
  bc : Blk W C #[.pointer (some ⟨P, 0, none⟩)] 69
  rd : RdAt W P S d s
  k : Keep [] w W
section
variable {w W W' : World} {A B C P : Nat} {S T : List Nat} {d : List UInt8} {s s' : RS} {v u : Value}
theorem PF.pw (f : PF w A B C P S) : w.heap.size ≤ P := f.s P f.p
theorem PF.ap (f : PF w A B C P S) : A ≠ P := fun e => f.na (e ▸ f.p)
theorem PF.bp (f : PF w A B C P S) : B ≠ P := fun e => f.nb (e ▸ f.p)
theorem PF.cp (f : PF w A B C P S) : C ≠ P := fun e => f.nc (e ▸ f.p)
theorem PS.read (h : PS w A B C P S d s v W) (f : PF w A B C P S) (k : Keep [P] W W') (r : RdAt W' P S d s') : PS w A B C P S d s' v W' :=
  ⟨h.ba.keep k (by simpa using f.ap), h.bb.keep k (by simpa using f.bp), h.bc.keep k (by simpa using f.cp), r, h.k.trans k (fun b hb => by simp only [List.mem_singleton] at hb; subst hb; exact Or.inr f.pw)⟩
theorem PS.keep (h : PS w A B C P S d s v W) (k : Keep T W W') (hT : ∀ b ∈ T, b ≠ A ∧ b ≠ B ∧ b ≠ C ∧ b ∉ S ∧ w.heap.size ≤ b) : PS w A B C P S d s v W' :=
  ⟨h.ba.keep k (fun hb => (hT _ hb).1 rfl), h.bb.keep k (fun hb => (hT _ hb).2.1 rfl), h.bc.keep k (fun hb => (hT _ hb).2.2.1 rfl), h.rd.keep k (fun b hb hb' => (hT b hb').2.2.2.1 hb), h.k.trans k (fun b hb => Or.inr (hT b hb).2.2.2.2)⟩
theorem PS.keep0 (h : PS w A B C P S d s v W) (k : Keep [] W W') : PS w A B C P S d s v W' := h.keep k (by simp)
theorem PS.drew (h : PS w A B C P S d s v W) : PS w A B C P S d s v W.drew := h.keep0 ((Keep.refl [] W).drew)
theorem PS.store (h : PS w A B C P S d s v W) (f : PF w A B C P S) (u : Value) : PS w A B C P S d s u (W.setCell ⟨A, 0, none⟩ u) :=
  ⟨h.ba.set 0 u, h.bb.setOther (a := ⟨A, 0, none⟩) f.ab.symm u, h.bc.setOther (a := ⟨A, 0, none⟩) f.ac.symm u, h.rd.keep (Keep.set_one W ⟨A, 0, none⟩ u) (fun b hb => by simp only [List.mem_singleton]; rintro rfl; exact f.na hb), h.k.set (Or.inr f.a) u⟩
end
end Go.Proofs.YtgeihjpifbkpkaaDoor

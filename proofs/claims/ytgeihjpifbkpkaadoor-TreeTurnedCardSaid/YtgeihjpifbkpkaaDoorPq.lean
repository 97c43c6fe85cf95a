/- Parse: what a panic reads of a frame that defers. -/
import Derived.Test.YtgeihjpifbkpkaaDoorPs
import Derived.Great.BuildSlice
set_option linter.unusedVariables false
set_option linter.unusedSimpArgs false
namespace Go.Proofs.YtgeihjpifbkpkaaDoor
open Go.RowKit
theorem leaves_same {P : Program} {fn : Func} {t t' : Array Value} {R : Ending → World → Prop} (h : results fn t = results fn t') : ∀ ds u w, Leaves P fn t R ds u w = Leaves P fn t' R ds u w := by
  intro ds
  induction ds with
  | nil => intro u w; cases u <;> simp only [Leaves, h]
  | cons d ds ih => intro u w; simp only [Leaves, ih]
theorem results19 (t : Array Value) (i : Nat) (v : Value) (h2 : i ≠ 2) (h3 : i ≠ 3) : results Tryd.f19 (t.setIfInBounds i v) = results Tryd.f19 t := by
  simp [results, Tryd.results19, Array.getElem?_setIfInBounds, h2, h3]
theorem back19 {R : Ending → World → Prop} (i : Nat) (h2 : i ≠ 2) (h3 : i ≠ 3) (c : List PanicEntry) (a : Act) (v : Value) (w : World) (h : bodyPostD Tryd.prog Tryd.f19 R (.panic c) (a.put (some i) v) w) : bodyPostD Tryd.prog Tryd.f19 R (.panic c) a w := by
  have e := leaves_same (P := Tryd.prog) (R := R) (results19 a.tmps i v h2 h3) a.defers (.panicking c) w
  exact e.mp h
theorem manyE_code {d : List UInt8} {s0 s : RS} (h0 : s0.code = 0) : ∀ {k : Nat} {l : List Ent}, manyE d s0 k = some (l, s) → s.code = 0 := by
  intro k
  cases k with
  | zero => intro l h; simp only [manyE, Option.some.injEq, Prod.mk.injEq] at h; rw [← h.2]; exact h0
  | succ k =>
    intro l h
    rw [manyE] at h
    cases hm : manyE d s0 k with
    | none => rw [hm] at h; cases h
    | some q =>
      obtain ⟨l', s'⟩ := q
      rw [hm] at h
      simp only at h
      split at h
      · rename_i hb
        simp only [Option.some.injEq, Prod.mk.injEq] at h
        rw [← h.2]
        have hb1 := (Bool.and_eq_true _ _).mp hb
        have hb2 := hb1.1
        unfold takOk at hb2
        exact of_decide_eq_true ((Bool.and_eq_true _ _).mp hb2).2
      · cases h
theorem takOk_code {d : List UInt8} {s : RS} (h : takOk d s = true) : (takE d s).2.code = 0 := by
  unfold takOk at h
  exact of_decide_eq_true ((Bool.and_eq_true _ _).mp h).2
theorem upE_at {l : List Ent} {j : Nat} {x y : Ent} (h : l[j]? = some y) (hl : l.length = j + 1) : upE l x = ltE y x := by
  have e : l.getLast? = some y := by rw [List.getLast?_eq_getElem?, hl]; exact h
  unfold upE; rw [e]
theorem upE_nil (x : Ent) : upE [] x = true := rfl
theorem sl_at {w : World} {a : Option Addr} {n c i : Nat} {l : List Ent} (hs : Sl w 37 34 (.slice a n c) n (cellsOf l)) (hl : l.length = n) (hi : i < n) : ∃ y b off, l[i]? = some y ∧ a = some ⟨b, off, none⟩ ∧ w.cell? ⟨b, off + i * 34, none⟩ = some (.string y.name) := by
  obtain ⟨a', c', e, ea, hrd, hle, hm, hnil⟩ := hs.form
  obtain ⟨rfl, rfl⟩ : a = a' ∧ c = c' := by simpa using e
  have hg := List.getElem?_eq_getElem (l := l) (i := i) (by omega)
  rcases hrd with e | ⟨b, off, e, hc⟩
  · have := congrArg List.length e
    rw [cellsOf_len] at this; simp at this; omega
  · refine ⟨_, b, off, hg, e, ?_⟩
    have := hc (i * 34 + 0) (.string (l[i]'(by omega)).name) (cellsOf_get hg (by omega))
    rwa [Nat.add_zero] at this
/-- What holds ahead of the i-th entry. -/
def PL (w : World) (A B C P : Nat) (S : List Nat) (d : List UInt8) (s0 : RS) (n : Nat) (v : Value) (wr : World) : Prop :=
  ∃ (i : Nat) (l : List Ent) (s : RS) (ao : Option Addr) (co : Nat), i ≤ n ∧ v = .int .i64 (i : Nat) ∧ Hid (manyE d s0 i = some (l, s)) ∧ PS w A B C P S d s (.slice ao i co) wr ∧ Sl wr 37 34 (.slice ao i co) i (cellsOf l) ∧ ∀ b ∈ blks (.slice ao i co), b ≠ A ∧ b ≠ B ∧ b ≠ C ∧ b ∉ S ∧ w.heap.size ≤ b
theorem PS.row {w W : World} {A B C P : Nat} {S : List Nat} {d : List UInt8} {s : RS} {v : Value} (h : PS w A B C P S d s v W) (f : PF w A B C P S) (u : Value) : PS w A B C P S d s u (W.setRow A #[u]) :=
  ⟨h.ba.setRow #[u], h.bb.setRowOther f.ab.symm #[u], h.bc.setRowOther f.ac.symm #[u], h.rd.keep ((Keep.refl [A] W).setRow (Or.inl (by simp)) _) (fun b hb hb' => by simp only [List.mem_singleton] at hb'; subst hb'; exact f.na hb), h.k.setRow (Or.inr f.a) _⟩
theorem PL.next {w w9 w6 : World} {A B C P : Nat} {S : List Nat} {d : List UInt8} {s0 s s' : RS} {n i c6 co : Nat} {l : List Ent} {x : Ent} {ao a6 : Option Addr} {k : Int} (hF : PF w A B C P S) (hi : i + 1 ≤ n) (hk : k = (i + 1 : Nat)) (HM : manyE d s0 i = some (l, s)) (hb : (takOk d s && upE l (takE d s).1) = true) (hx : (takE d s).1 = x) (hs' : (takE d s).2 = s')
    (hS9 : PS w A B C P S d s' (.slice ao i co) w9) (hS6 : PS w A B C P S d s' (.slice ao i co) w6) (hs6 : Sl w6 37 34 (.slice a6 (i + 1) c6) (i + 1) (cellsOf l ++ x.cells)) (hf6 : Fr w9 (blks (.slice ao i co)) (blks (.slice a6 (i + 1) c6))) (hO : ∀ b ∈ blks (.slice ao i co), b ≠ A ∧ b ≠ B ∧ b ≠ C ∧ b ∉ S ∧ w.heap.size ≤ b) :
    PL w A B C P S d s0 n (.int .i64 k) (w6.setRow A #[.slice a6 (i + 1) c6]) := by
  subst hk
  have hO6 : ∀ b ∈ blks (.slice a6 (i + 1) c6), b ≠ A ∧ b ≠ B ∧ b ≠ C ∧ b ∉ S ∧ w.heap.size ≤ b := fun b hb => by
    rcases hf6 b hb with h | h
    · exact hO b h
    · have h1 := hS9.ba.lt
      have h2 := hS9.bb.lt
      have h3 := hS9.bc.lt
      have h4 := hS9.rd.lt
      have h5 := hS9.k.size
      exact ⟨by omega, by omega, by omega, fun h6 => by have := h4 b h6; omega, by omega⟩
  refine ⟨i + 1, l ++ [x], s', a6, c6, hi, rfl, Lib.hid (by rw [manyE_yes HM hb, hx, hs']), hS6.row hF _, ?_, hO6⟩
  rw [cellsOf_append, cellsOf_one]
  exact hs6.keep ((Keep.refl [A] w6).setRow (Or.inl (by simp)) _) (fun b hb hb' => by simp only [List.mem_singleton] at hb'; exact (hO6 b hb).1 hb')
end Go.Proofs.YtgeihjpifbkpkaaDoor

/- What the laws of Join stand on. -/
import Derived.Test.YtjdkeabimcajlaaRj
import Derived.Test.YtjdkeabimcajlaaTw
set_option linter.unusedVariables false
set_option linter.unusedSimpArgs false
namespace Go.Proofs.Ytjdkeabimcajlaa
open Go.RowKit

theorem joinK_facts : ∀ (N : Nat) (l m : List Res), l.length + m.length ≤ N → (∀ i ∈ joinK l m, i.length = 32) ∧ (joinK l m).length ≤ l.length := by
  intro N
  induction N with
  | zero =>
    intro l m h
    have e : l = [] := List.eq_nil_of_length_eq_zero (by omega)
    subst e; rw [joinK_nil]; simp
  | succ N ih =>
    intro l m h
    cases l with
    | nil => rw [joinK_nil]; simp
    | cons x l =>
      cases m with
      | nil => rw [joinK_end]; simp
      | cons y m =>
        simp only [List.length_cons] at h
        by_cases h1 : Lib.compareBytes x.act y.act < 0
        · rw [joinK_lt h1]
          obtain ⟨a, b⟩ := ih l (y :: m) (by simp; omega)
          exact ⟨a, by simp at b ⊢; omega⟩
        · by_cases h2 : Lib.compareBytes y.act x.act < 0
          · rw [joinK_gt h1 h2]
            obtain ⟨a, b⟩ := ih (x :: l) m (by simp; omega)
            exact ⟨a, b⟩
          · rw [joinK_eq h1 h2]
            obtain ⟨a, b⟩ := ih l m (by omega)
            refine ⟨fun i hi => ?_, ?_⟩
            · rcases List.mem_append.1 hi with h3 | h3
              · split at h3
                · cases h3
                · simp only [List.mem_singleton] at h3; rw [h3]; exact x.la
              · exact a i h3
            · rw [List.length_append, List.length_cons]
              split <;> simp <;> omega
theorem joinI_facts (how : Int) (l m : List Res) : (∀ i ∈ joinI how l m, i.length = 32) ∧ (joinI how l m).length ≤ l.length := by
  unfold joinI
  split
  · exact joinK_facts _ l m (Nat.le_refl _)
  · simp
theorem joinT_short (how : Int) (l m : List Res) : (joinT how l m).length ≤ 32 := by
  unfold joinT
  split
  · rename_i h
    by_cases hh : knownHow how
    · by_cases hv : validR l = true ∧ validR m = true
      · by_cases h3 : how = 3 ∧ joinK l m ≠ []
        · rw [(join_clash hh hv h3).1] at h; cases h
        · by_cases h4 : 32 < (joinO how l m).length
          · rw [(join_long hh hv h3 h4).1] at h; cases h
          · omega
      · rw [(join_bad hh hv).1] at h; cases h
    · rw [(join_how hh).1] at h; cases h
  · simp
/-- What both Joins give, the lengths under names. -/
def GiveN (w : World) (rs : List Res) (ids : List (List UInt8)) (code : Int) (e : Ending) (w' : World) : Prop :=
  ∃ (a1 : Option Addr) (n1 c1 : Nat) (a2 : Option Addr) (n2 c2 : Nat), e = .returned (.tuple #[.slice a1 n1 c1, .slice a2 n2 c2, .int .i64 code]) ∧ RsIn w' a1 n1 c1 rs ∧ IdsIn w' a2 n2 ids ∧ Fr w [] (blks (.slice a1 n1 c1)) ∧ Fr w [] (blks (.slice a2 n2 c2)) ∧ n2 ≤ 140737488355328 ∧ Keep [] w w'
theorem giveN {w w' : World} {l m : List Res} {how : Int} {e : Ending} (hl : l.length ≤ 140737488355328) (h : GiveJ w (joinT how l m) (joinI how l m) (joinC how l m) e w') : GiveN w (joinT how l m) (joinI how l m) (joinC how l m) e w' := by
  obtain ⟨a', c', ai, ci, rfl, s, t, f, g, k⟩ := h
  have h1 := joinT_short how l m
  obtain ⟨h2, h3⟩ := joinI_facts how l m
  exact ⟨a', _, c', ai, _, ci, rfl, RsIn.of_sl s rfl (by omega), ⟨rfl, t.rd, h2⟩, f, g, by omega, k⟩
theorem ids_eq (a b : Option Addr) (n c m d : Nat) (xs : List (List UInt8)) (w : World) (hx : IdsIn w a n xs) (hy : IdsIn w b m xs) (hn : n ≤ 140737488355328) :
    Calls Try.prog 27 #[.slice a n c, .slice b m d] w fun e w' => e = .returned (.bool true) ∧ Keep [] w w' := by
  have h := ids_any a b n c m d xs xs w hx hy hn
  rwa [decide_eq_true rfl] at h
end Go.Proofs.Ytjdkeabimcajlaa

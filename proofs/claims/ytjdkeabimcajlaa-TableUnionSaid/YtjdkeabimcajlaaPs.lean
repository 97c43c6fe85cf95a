/- Tables as rising lists: what is found in one, and what With leaves. No program in sight. -/
import Derived.Test.YtjdkeabimcajlaaFd
set_option linter.unusedVariables false
set_option linter.unusedSimpArgs false
namespace Go.Proofs.Ytjdkeabimcajlaa
open Go.RowKit

abbrev Up (x y : Res) : Prop := Lib.compareBytes x.act y.act < 0
theorem valid_iff {l : List Res} : validR l = true ↔ l.length ≤ 32 ∧ (∀ x ∈ l, fitR x = true) ∧ l.Pairwise Up := by
  constructor
  · intro h
    obtain ⟨h32, hok⟩ : l.length ≤ 32 ∧ okTo l l.length = true := by simpa [validR] using h
    refine ⟨h32, fun x hx => ?_, ?_⟩
    · obtain ⟨i, hi, e⟩ := List.mem_iff_getElem.1 hx
      cases hf : fitR x with
      | true => rfl
      | false =>
        rw [okTo_no (step_unfit (by rw [List.getElem?_eq_getElem hi, e]) hf) hi] at hok; cases hok
    · rw [List.pairwise_iff_getElem]
      intro i j hi hj hij
      exact ok_lt hok hij (List.getElem?_eq_getElem hi) (List.getElem?_eq_getElem hj)
  · rintro ⟨h32, hf, hp⟩
    rw [valid_long h32, okTo, List.all_eq_true]
    intro i hi
    have hi := List.mem_range.1 hi
    have hx := List.getElem?_eq_getElem (l := l) hi
    cases i with
    | zero => rw [step_first hx]; exact hf _ (List.getElem_mem hi)
    | succ j =>
      have hy := List.getElem?_eq_getElem (l := l) (i := j) (by omega)
      rw [step_next hx hy, Bool.and_eq_true]
      exact ⟨hf _ (List.getElem_mem hi), decide_eq_true (List.pairwise_iff_getElem.1 hp j (j + 1) (by omega) hi (by omega))⟩
theorem up_ne {x y : Res} (h : Up x y) : x.act ≠ y.act := fun e => by
  have := (cmp_zero x.act y.act).2 e
  unfold Up at h; omega
theorem up_of {x y : Res} (h : ¬ Up x y) (h' : ¬ Up y x) : x.act = y.act := by
  have := cmp_turn x.act y.act
  unfold Up at h h'
  exact (cmp_zero x.act y.act).1 (by omega)
/-- In a rising list each is found by its action. -/
theorem find_mem {l : List Res} (hp : l.Pairwise Up) {y : Res} (hy : y ∈ l) : findO l y.act = some y := by
  induction l with
  | nil => cases hy
  | cons x l ih =>
    rw [List.pairwise_cons] at hp
    rcases List.mem_cons.1 hy with rfl | h
    · simp [findO]
    · have hne := up_ne (hp.1 y h)
      have : (x.act == y.act) = false := by simpa using hne
      simp only [findO, List.find?_cons, this]
      exact ih hp.2 h
theorem find_not {l : List Res} {a : List UInt8} (h : ∀ y ∈ l, y.act ≠ a) : findO l a = none := by
  unfold findO
  rw [List.find?_eq_none]
  intro x hx
  simpa using h x hx
/-- Where it stands: hit or not. -/
theorem hit_find {l : List Res} (hok : okTo l l.length = true) (hp : l.Pairwise Up) (a : List UInt8) : findB l a = hitR l a := by
  have hpl := plc_is hok a
  unfold hitR
  cases he : l[plc l a]? with
  | none =>
    have hlen : l.length ≤ plc l a := by rwa [List.getElem?_eq_none_iff] at he
    simp only [findB]
    rw [find_not]; rfl
    intro y hy e
    obtain ⟨i, hi, e2⟩ := List.mem_iff_getElem.1 hy
    have := hpl.low i y (by omega) (by rw [List.getElem?_eq_getElem hi, e2])
    have := (cmp_zero y.act a).2 e
    omega
  | some x =>
    simp only
    cases hq : (x.act == a) with
    | true =>
      have e : x.act = a := by simpa using hq
      subst e
      exact find_in he
    | false =>
      have hne : x.act ≠ a := by simpa using hq
      simp only [findB]
      rw [find_not]; rfl
      intro y hy e
      obtain ⟨i, hi, e2⟩ := List.mem_iff_getElem.1 hy
      have hiy : l[i]? = some y := by rw [List.getElem?_eq_getElem hi, e2]
      have hz := (cmp_zero y.act a).2 e
      rcases Nat.lt_trichotomy i (plc l a) with h | h | h
      · have := hpl.low i y h hiy; omega
      · subst h; rw [he] at hiy; cases hiy; exact hne e
      · have h1 := ok_lt hok h he hiy
        have h2 := hpl.high _ x (Nat.le_refl _) he
        rw [e] at h1; exact h2 h1
/-- What With lays is a rising list again. -/
theorem with_up {l : List Res} {x : Res} (h : validR l = true) : (withR l x).Pairwise Up ∧ x ∈ withR l x ∧ (∀ y ∈ l, y.act ≠ x.act → y ∈ withR l x) ∧ (∀ y ∈ withR l x, y = x ∨ y ∈ l) := by
  obtain ⟨h32, hf, hp⟩ := valid_iff.1 h
  obtain ⟨_, hok⟩ : l.length ≤ 32 ∧ okTo l l.length = true := by simpa [validR] using h
  have hpl := plc_is hok x.act
  have hle := hpl.le
  obtain ⟨p, hpe⟩ : ∃ p, plc l x.act = p := ⟨_, rfl⟩
  obtain ⟨q, hqe⟩ : ∃ q, (if hitR l x.act then plc l x.act + 1 else plc l x.act) = q := ⟨_, rfl⟩
  have hw : withR l x = l.take p ++ ([x] ++ l.drop q) := by rw [withR, hqe, hpe]
  have hlow : ∀ y ∈ l.take p, Up y x := fun y hy => by
    obtain ⟨i, hi, e⟩ := List.mem_iff_getElem.1 hy
    rw [List.length_take] at hi
    rw [List.getElem_take] at e
    exact hpl.low i y (by omega) (by rw [List.getElem?_eq_getElem (by omega), e])
  have hhigh : ∀ y ∈ l.drop q, Up x y := fun y hy => by
    obtain ⟨i, hi, e⟩ := List.mem_iff_getElem.1 hy
    rw [List.length_drop] at hi
    rw [List.getElem_drop] at e
    have hiy : l[q + i]? = some y := by rw [List.getElem?_eq_getElem (by omega), e]
    by_cases hh : hitR l x.act = true
    · rw [if_pos hh] at hqe
      obtain ⟨z, hz⟩ := hit_some hpe hh
      have hza : z.act = x.act := by
        have := hh; unfold hitR at this; rw [hpe, hz] at this; simpa using this
      have := ok_lt hok (show p < q + i by omega) hz hiy
      unfold Up; rw [← hza]; exact this
    · rw [if_neg hh] at hqe
      have h1 := hpl.high _ y (show plc l x.act ≤ q + i by omega) hiy
      have hne : y.act ≠ x.act := fun e => by
        have hfb : findB l x.act = false := by rw [hit_find hok hp]; simpa using hh
        rw [← e, find_in hiy] at hfb; cases hfb
      have t := cmp_turn y.act x.act
      have z : ¬ Lib.compareBytes y.act x.act = 0 := fun e => hne ((cmp_zero y.act x.act).1 e)
      unfold Up; omega
  have hcut : ∀ y ∈ l, y.act ≠ x.act → y ∈ withR l x := fun y hy hne => by
    rw [hw]
    obtain ⟨i, hi, e⟩ := List.mem_iff_getElem.1 hy
    by_cases hip : i < p
    · exact List.mem_append_left _ (List.mem_iff_getElem.2 ⟨i, by rw [List.length_take]; omega, by rw [List.getElem_take, e]⟩)
    · have hiq : q ≤ i := by
        by_cases hh : hitR l x.act = true
        · rw [if_pos hh] at hqe
          rcases Nat.lt_or_ge i q with h | h
          · exfalso
            obtain rfl : i = p := by omega
            obtain ⟨z, hz⟩ := hit_some hpe hh
            have hza : z.act = x.act := by
              have := hh; unfold hitR at this; rw [hpe, hz] at this; simpa using this
            rw [List.getElem?_eq_getElem hi, e] at hz
            cases hz; exact hne hza
          · exact h
        · rw [if_neg hh] at hqe; omega
      refine List.mem_append_right _ (List.mem_append_right _ (List.mem_iff_getElem.2 ⟨i - q, by rw [List.length_drop]; omega, ?_⟩))
      rw [List.getElem_drop]
      simp only [show q + (i - q) = i by omega, e]
  refine ⟨?_, ?_, hcut, ?_⟩
  · rw [hw, List.pairwise_append]
    refine ⟨hp.sublist (List.take_sublist _ _), ?_, ?_⟩
    · rw [List.pairwise_append]
      refine ⟨List.pairwise_singleton _ _, hp.sublist (List.drop_sublist _ _), fun a ha b hb => ?_⟩
      rw [List.mem_singleton] at ha; subst ha; exact hhigh b hb
    · intro a ha b hb
      rcases List.mem_append.1 hb with h1 | h1
      · rw [List.mem_singleton] at h1; subst h1; exact hlow a ha
      · exact cmp_lt_trans (hlow a ha) (hhigh b h1)
  · rw [hw]; simp
  · intro y hy
    rw [hw] at hy
    rcases List.mem_append.1 hy with h1 | h1
    · exact Or.inr (List.mem_of_mem_take h1)
    · rcases List.mem_append.1 h1 with h2 | h2
      · exact Or.inl (by simpa using h2)
      · exact Or.inr (List.mem_of_mem_drop h2)
/-- With, twice: nothing new. -/
theorem rising_eq : ∀ {l m : List Res}, l.Pairwise Up → m.Pairwise Up → (∀ x, x ∈ l ↔ x ∈ m) → l = m
  | [], [], _, _, _ => rfl
  | [], y :: m, _, _, h => absurd ((h y).2 (List.mem_cons_self)) (by simp)
  | x :: l, [], _, _, h => absurd ((h x).1 (List.mem_cons_self)) (by simp)
  | x :: l, y :: m, h1, h2, h => by
    rw [List.pairwise_cons] at h1 h2
    have e : x = y := by
      rcases List.mem_cons.1 ((h x).1 List.mem_cons_self) with e | hx
      · exact e
      · rcases List.mem_cons.1 ((h y).2 List.mem_cons_self) with e | hy
        · exact e.symm
        · have a := h2.1 x hx
          have b := h1.1 y hy
          unfold Up at a b
          have := cmp_turn x.act y.act
          omega
    subst e
    refine congrArg (x :: ·) (rising_eq h1.2 h2.2 fun z => ?_)
    constructor
    · intro hz
      rcases List.mem_cons.1 ((h z).1 (List.mem_cons_of_mem _ hz)) with e | hz'
      · subst e; exact absurd rfl (up_ne (h1.1 _ hz))
      · exact hz'
    · intro hz
      rcases List.mem_cons.1 ((h z).2 (List.mem_cons_of_mem _ hz)) with e | hz'
      · subst e; exact absurd rfl (up_ne (h2.1 _ hz))
      · exact hz'
/-- What TableSets asks of With. -/
structure Sets (l r : List Res) (x : Res) : Prop where
  vl : validR l = true
  vr : validR r = true
  short : r.length ≤ 32
  lo : l.length ≤ r.length
  hi : r.length ≤ l.length + 1
  found : findV r x.act = x ∧ findB r x.act = true
  was : findB l x.act = decide (r.length = l.length)
  rest : ∀ y ∈ l, y.act ≠ x.act → findV r y.act = y ∧ findB r y.act = true
  again : givR r x = r ∧ withC r x = 0
theorem sets_of {l : List Res} {x : Res} (h : withC l x = 0) : Sets l (givR l x) x := by
  by_cases hv' : ¬ (validR l = true ∧ fitR x = true)
  · rw [(giv_no hv').1] at h; cases h
  have hv := Classical.not_not.1 hv'
  by_cases h32 : 32 < (withR l x).length
  · rw [(giv_long hv h32).1] at h; cases h
  have hg := (giv_yes hv h32).2
  obtain ⟨hup, hin, hcut, hall⟩ := with_up (x := x) hv.1
  obtain ⟨hl32, hf, hp⟩ := valid_iff.1 hv.1
  obtain ⟨_, hok⟩ : l.length ≤ 32 ∧ okTo l l.length = true := by simpa [validR] using hv.1
  have hlen := withR_len l x
  have vr : validR (withR l x) = true := valid_iff.2 ⟨by omega, fun y hy => by rcases hall y hy with rfl | h1; exact hv.2; exact hf y h1, hup⟩
  rw [hg]
  have hfx := find_mem hup hin
  refine ⟨hv.1, vr, by omega, by rw [hlen]; split <;> omega, by rw [hlen]; split <;> omega, find_some hfx, ?_, fun y hy hne => find_some (find_mem hup (hcut y hy hne)), ?_⟩
  · rw [hit_find hok hp, hlen]
    cases hitR l x.act <;> simp
  · obtain ⟨hup2, hin2, hcut2, hall2⟩ := with_up (x := x) vr
    have e : withR (withR l x) x = withR l x := by
      refine rising_eq hup2 hup fun z => ⟨fun hz => ?_, fun hz => ?_⟩
      · rcases hall2 z hz with rfl | h1
        · exact hin
        · exact h1
      · by_cases hz2 : z.act = x.act
        · have h1 := find_mem hup hz
          rw [hz2, hfx] at h1
          cases h1; exact hin2
        · exact hcut2 z hz hz2
    have h3 : ¬ 32 < (withR (withR l x) x).length := by rw [e]; exact h32
    obtain ⟨a, b⟩ := giv_yes (l := withR l x) (x := x) ⟨vr, hv.2⟩ h3
    exact ⟨by rw [b, e], a⟩
theorem sets_no {l : List Res} {x : Res} (h : ¬ withC l x = 0) : givR l x = [] := by simp [givR, h]
end Go.Proofs.Ytjdkeabimcajlaa

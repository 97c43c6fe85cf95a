/- The union of two tables, action by action. No program in sight. -/
import Derived.Test.YtjdkeabimcajlaaPs
import Derived.Test.YtjdkeabimcajlaaTk
set_option linter.unusedVariables false
set_option linter.unusedSimpArgs false
namespace Go.Proofs.Ytjdkeabimcajlaa
open Go.RowKit

theorem join_ind {P : List Res → List Res → Prop} (h1 : ∀ m, P [] m) (h2 : ∀ x l, P (x :: l) [])
    (h3 : ∀ x l y m, Up x y → (x :: l).Pairwise Up → (y :: m).Pairwise Up → P l (y :: m) → P (x :: l) (y :: m))
    (h4 : ∀ x l y m, ¬ Up x y → Up y x → (x :: l).Pairwise Up → (y :: m).Pairwise Up → P (x :: l) m → P (x :: l) (y :: m))
    (h5 : ∀ x l y m, ¬ Up x y → ¬ Up y x → (x :: l).Pairwise Up → (y :: m).Pairwise Up → P l m → P (x :: l) (y :: m)) :
    ∀ (N : Nat) (l m : List Res), l.length + m.length ≤ N → l.Pairwise Up → m.Pairwise Up → P l m := by
  intro N
  induction N with
  | zero =>
    intro l m h _ _
    have e : l = [] := List.eq_nil_of_length_eq_zero (by omega)
    subst e; exact h1 m
  | succ N ih =>
    intro l m h hl hm
    cases l with
    | nil => exact h1 m
    | cons x l =>
      cases m with
      | nil => exact h2 x l
      | cons y m =>
        simp only [List.length_cons] at h
        by_cases a : Up x y
        · exact h3 x l y m a hl hm (ih l (y :: m) (by simp; omega) (List.pairwise_cons.1 hl).2 hm)
        · by_cases b : Up y x
          · exact h4 x l y m a b hl hm (ih (x :: l) m (by simp; omega) hl (List.pairwise_cons.1 hm).2)
          · exact h5 x l y m a b hl hm (ih l m (by omega) (List.pairwise_cons.1 hl).2 (List.pairwise_cons.1 hm).2)
/-- What is counted and what is told while theirs are gone through. -/
def unl (l m : List Res) : List (List UInt8) := m.flatMap fun y => if findB l y.act = true ∧ findV l y.act ≠ y then [(findV l y.act).act] else []
def cntN (l m : List Res) : Nat := (m.filter fun y => !findB l y.act).length
theorem find_skip {x : Res} {l : List Res} {a : List UInt8} (h : x.act ≠ a) : findO (x :: l) a = findO l a := by
  have : (x.act == a) = false := by simpa using h
  simp only [findO, List.find?_cons, this]
theorem find_head {x : Res} {l : List Res} : findO (x :: l) x.act = some x := by simp [findO]
theorem unl_skip {x : Res} {l m : List Res} (h : ∀ z ∈ m, x.act ≠ z.act) : unl (x :: l) m = unl l m ∧ cntN (x :: l) m = cntN l m := by
  have hb : ∀ z ∈ m, findB (x :: l) z.act = findB l z.act ∧ findV (x :: l) z.act = findV l z.act := fun z hz => by
    rw [findB, findB, findV, findV, find_skip (h z hz)]; exact ⟨rfl, rfl⟩
  constructor
  · unfold unl
    rw [List.flatMap_def, List.flatMap_def]
    congr 1
    exact List.map_congr_left (fun z hz => by rw [(hb z hz).1, (hb z hz).2])
  · unfold cntN
    congr 1
    exact List.filter_congr (fun z hz => by rw [(hb z hz).1])
theorem up_low {x y : Res} {m : List Res} (h : Up x y) (hm : (y :: m).Pairwise Up) : ∀ z ∈ y :: m, Up x z := fun z hz => by
  rcases List.mem_cons.1 hz with rfl | h1
  · exact h
  · exact cmp_lt_trans h ((List.pairwise_cons.1 hm).1 z h1)
theorem up_eq {x y z : Res} (e : x.act = y.act) (h : Up y z) : Up x z := by unfold Up at *; rw [e]; exact h
theorem find_below {x : Res} {l : List Res} (h : ∀ z ∈ l, Up x z) : findO l x.act = none := find_not (fun z hz e => up_ne (h z hz) e.symm)
theorem unl_join (l m : List Res) (hl : l.Pairwise Up) (hm : m.Pairwise Up) : unl l m = joinK l m ∧ ∀ how, (joinO how l m).length = l.length + cntN l m := by
  refine join_ind (P := fun l m => unl l m = joinK l m ∧ ∀ how, (joinO how l m).length = l.length + cntN l m) ?_ ?_ ?_ ?_ ?_ _ l m (Nat.le_refl _) hl hm
  · intro m
    refine ⟨?_, fun how => ?_⟩
    · rw [joinK_nil]; simp [unl, findB, findO]
    · rw [joinO_nil, cntN, List.filter_eq_self.2 (by intro z _; rfl)]; simp
  · intro x l
    refine ⟨?_, fun how => ?_⟩
    · rw [joinK_end]; rfl
    · rw [joinO_end]; rfl
  · intro x l y m a h1 h2 ih
    have hs := unl_skip (l := l) (m := y :: m) (fun z hz => up_ne (up_low a h2 z hz))
    refine ⟨by rw [hs.1, joinK_lt a]; exact ih.1, fun how => ?_⟩
    rw [hs.2, joinO_lt a, List.length_cons, ih.2 how, List.length_cons]; omega
  · intro x l y m a b h1 h2 ih
    have hn : findO (x :: l) y.act = none := find_below (up_low b h1)
    have e1 : unl (x :: l) (y :: m) = unl (x :: l) m := by
      unfold unl
      rw [List.flatMap_cons, if_neg (by rw [findB, hn]; simp)]; rfl
    have e2 : cntN (x :: l) (y :: m) = cntN (x :: l) m + 1 := by
      unfold cntN
      rw [List.filter_cons, if_pos (by rw [findB, hn]; rfl)]; rfl
    refine ⟨by rw [e1, joinK_gt a b]; exact ih.1, fun how => ?_⟩
    rw [e2, joinO_gt a b, List.length_cons, ih.2 how]; omega
  · intro x l y m a b h1 h2 ih
    have hxy := up_of a b
    have hf : findO (x :: l) y.act = some x := by rw [← hxy]; exact find_head
    have hs := unl_skip (x := x) (l := l) (m := m) (fun z hz => up_ne (up_eq hxy ((List.pairwise_cons.1 h2).1 z hz)))
    have e1 : unl (x :: l) (y :: m) = (if x = y then [] else [x.act]) ++ unl l m := by
      rw [← hs.1]
      unfold unl
      rw [List.flatMap_cons, findB, findV, hf]
      by_cases e : x = y
      · rw [if_pos e, if_neg (by simp [e])]
      · rw [if_neg e, if_pos (by simp [e])]; rfl
    have e2 : cntN (x :: l) (y :: m) = cntN l m := by
      rw [← hs.2]
      unfold cntN
      rw [List.filter_cons, if_neg (by rw [findB, hf]; simp)]
    refine ⟨by rw [e1, joinK_eq a b, ih.1], fun how => ?_⟩
    rw [e2, joinO_eq a b, List.length_cons, ih.2 how, List.length_cons]; omega
/-- Whose each is. -/
theorem join_mem (how : Int) (l m : List Res) (hl : l.Pairwise Up) (hm : m.Pairwise Up) : ∀ z ∈ joinO how l m, (z ∈ l ∧ (how = 2 → ∀ y ∈ m, y.act ≠ z.act)) ∨ (z ∈ m ∧ (how ≠ 2 → ∀ x ∈ l, x.act ≠ z.act)) := by
  refine join_ind (P := fun l m => ∀ z ∈ joinO how l m, (z ∈ l ∧ (how = 2 → ∀ y ∈ m, y.act ≠ z.act)) ∨ (z ∈ m ∧ (how ≠ 2 → ∀ x ∈ l, x.act ≠ z.act))) ?_ ?_ ?_ ?_ ?_ _ l m (Nat.le_refl _) hl hm
  · intro m z hz
    rw [joinO_nil] at hz
    exact Or.inr ⟨hz, fun _ x hx => by cases hx⟩
  · intro x l z hz
    rw [joinO_end] at hz
    exact Or.inl ⟨hz, fun _ x hx => by cases hx⟩
  · intro x l y m a h1 h2 ih z hz
    rw [joinO_lt a] at hz
    rcases List.mem_cons.1 hz with rfl | hz
    · exact Or.inl ⟨List.mem_cons_self, fun _ y' hy' e => up_ne (up_low a h2 y' hy') e.symm⟩
    · rcases ih z hz with ⟨h3, h4⟩ | ⟨h3, h4⟩
      · exact Or.inl ⟨List.mem_cons_of_mem _ h3, h4⟩
      · refine Or.inr ⟨h3, fun hh x' hx' => ?_⟩
        rcases List.mem_cons.1 hx' with rfl | h5
        · exact up_ne (up_low a h2 z h3)
        · exact h4 hh x' h5
  · intro x l y m a b h1 h2 ih z hz
    rw [joinO_gt a b] at hz
    rcases List.mem_cons.1 hz with rfl | hz
    · exact Or.inr ⟨List.mem_cons_self, fun _ x' hx' e => up_ne (up_low b h1 x' hx') e.symm⟩
    · rcases ih z hz with ⟨h3, h4⟩ | ⟨h3, h4⟩
      · refine Or.inl ⟨h3, fun hh y' hy' => ?_⟩
        rcases List.mem_cons.1 hy' with rfl | h5
        · exact up_ne (up_low b h1 z h3)
        · exact h4 hh y' h5
      · exact Or.inr ⟨List.mem_cons_of_mem _ h3, h4⟩
  · intro x l y m a b h1 h2 ih z hz
    have hxy := up_of a b
    rw [joinO_eq a b] at hz
    rcases List.mem_cons.1 hz with rfl | hz
    · by_cases hh : how = 2
      · rw [pickR, if_pos hh]; exact Or.inr ⟨List.mem_cons_self, fun h => absurd hh h⟩
      · rw [pickR, if_neg hh]; exact Or.inl ⟨List.mem_cons_self, fun h => absurd h hh⟩
    · rcases ih z hz with ⟨h3, h4⟩ | ⟨h3, h4⟩
      · refine Or.inl ⟨List.mem_cons_of_mem _ h3, fun hh y' hy' => ?_⟩
        rcases List.mem_cons.1 hy' with rfl | h5
        · exact up_ne (up_eq hxy.symm ((List.pairwise_cons.1 h1).1 z h3))
        · exact h4 hh y' h5
      · refine Or.inr ⟨List.mem_cons_of_mem _ h3, fun hh x' hx' => ?_⟩
        rcases List.mem_cons.1 hx' with rfl | h5
        · exact up_ne (up_eq hxy ((List.pairwise_cons.1 h2).1 z h3))
        · exact h4 hh x' h5
theorem join_up (how : Int) (l m : List Res) (hl : l.Pairwise Up) (hm : m.Pairwise Up) : (joinO how l m).Pairwise Up := by
  refine join_ind (P := fun l m => l.Pairwise Up → m.Pairwise Up → (joinO how l m).Pairwise Up) ?_ ?_ ?_ ?_ ?_ _ l m (Nat.le_refl _) hl hm hl hm
  · intro m _ h; rw [joinO_nil]; exact h
  · intro x l h _; rw [joinO_end]; exact h
  · intro x l y m a _ _ ih h1 h2
    rw [joinO_lt a]
    refine List.pairwise_cons.2 ⟨fun z hz => ?_, ih (List.pairwise_cons.1 h1).2 h2⟩
    rcases join_mem how _ _ (List.pairwise_cons.1 h1).2 h2 z hz with ⟨h3, _⟩ | ⟨h3, _⟩
    · exact (List.pairwise_cons.1 h1).1 z h3
    · exact up_low a h2 z h3
  · intro x l y m a b _ _ ih h1 h2
    rw [joinO_gt a b]
    refine List.pairwise_cons.2 ⟨fun z hz => ?_, ih h1 (List.pairwise_cons.1 h2).2⟩
    rcases join_mem how _ _ h1 (List.pairwise_cons.1 h2).2 z hz with ⟨h3, _⟩ | ⟨h3, _⟩
    · exact up_low b h1 z h3
    · exact (List.pairwise_cons.1 h2).1 z h3
  · intro x l y m a b _ _ ih h1 h2
    have hxy := up_of a b
    rw [joinO_eq a b]
    refine List.pairwise_cons.2 ⟨fun z hz => ?_, ih (List.pairwise_cons.1 h1).2 (List.pairwise_cons.1 h2).2⟩
    have hp : (pickR how x y).act = x.act := by unfold pickR; split; exact hxy.symm; rfl
    rcases join_mem how _ _ (List.pairwise_cons.1 h1).2 (List.pairwise_cons.1 h2).2 z hz with ⟨h3, _⟩ | ⟨h3, _⟩
    · exact up_eq hp ((List.pairwise_cons.1 h1).1 z h3)
    · exact up_eq (hp.trans hxy) ((List.pairwise_cons.1 h2).1 z h3)
theorem join_acts (l m : List Res) (hl : l.Pairwise Up) (hm : m.Pairwise Up) : (joinO 1 l m).map Res.act = (joinO 2 l m).map Res.act := by
  refine join_ind (P := fun l m => (joinO 1 l m).map Res.act = (joinO 2 l m).map Res.act) ?_ ?_ ?_ ?_ ?_ _ l m (Nat.le_refl _) hl hm
  · intro m; rw [joinO_nil, joinO_nil]
  · intro x l; rw [joinO_end, joinO_end]
  · intro x l y m a _ _ ih; rw [joinO_lt a, joinO_lt a, List.map_cons, List.map_cons, ih]
  · intro x l y m a b _ _ ih; rw [joinO_gt a b, joinO_gt a b, List.map_cons, List.map_cons, ih]
  · intro x l y m a b _ _ ih
    rw [joinO_eq a b, joinO_eq a b, List.map_cons, List.map_cons, ih, pickR, pickR, if_neg (by decide), if_pos rfl, up_of a b]
theorem join_3is1 (l m : List Res) : joinO 3 l m = joinO 1 l m := by
  have : ∀ (N : Nat) (l m : List Res), l.length + m.length ≤ N → joinO 3 l m = joinO 1 l m := by
    intro N
    induction N with
    | zero =>
      intro l m h
      have e : l = [] := List.eq_nil_of_length_eq_zero (by omega)
      subst e; rw [joinO_nil, joinO_nil]
    | succ N ih =>
      intro l m h
      cases l with
      | nil => rw [joinO_nil, joinO_nil]
      | cons x l =>
        cases m with
        | nil => rw [joinO_end, joinO_end]
        | cons y m =>
          simp only [List.length_cons] at h
          by_cases a : Lib.compareBytes x.act y.act < 0
          · rw [joinO_lt a, joinO_lt a, ih l (y :: m) (by simp; omega)]
          · by_cases b : Lib.compareBytes y.act x.act < 0
            · rw [joinO_gt a b, joinO_gt a b, ih (x :: l) m (by simp; omega)]
            · rw [joinO_eq a b, joinO_eq a b, ih l m (by omega), pickR, pickR, if_neg (by decide), if_neg (by decide)]
  exact this _ l m (Nat.le_refl _)
theorem join_self (how : Int) : ∀ l : List Res, joinO how l l = l ∧ joinK l l = []
  | [] => ⟨joinO_nil _ _, joinK_nil _⟩
  | x :: l => by
    have a : ¬ Lib.compareBytes x.act x.act < 0 := by rw [(cmp_zero x.act x.act).2 rfl]; omega
    rw [joinO_eq a a, joinK_eq a a, (join_self how l).1, (join_self how l).2]
    refine ⟨?_, by simp⟩
    unfold pickR; split <;> rfl
/-- What is asked of one of the union: k of the one kept, t of the one taken. -/
def Goes (l m : List Res) (k t : Res) : Prop :=
  (findO l k.act = some k ∧ findO m k.act = none ∧ t = k) ∨ (findO l k.act = none ∧ findO m k.act = some k ∧ t = k) ∨ (findO l k.act = some k ∧ findO m k.act = some t)
theorem goes_at {l m : List Res} (hl : l.Pairwise Up) (hm : m.Pairwise Up) {i : Nat} {k t : Res} (hk : (joinO 1 l m)[i]? = some k) (ht : (joinO 2 l m)[i]? = some t) : Goes l m k t := by
  have ha : k.act = t.act := by
    have h := congrArg (·[i]?) (join_acts l m hl hm)
    simpa [hk, ht] using h
  have h1 := join_mem 1 l m hl hm k (List.mem_of_getElem? hk)
  have h2 := join_mem 2 l m hl hm t (List.mem_of_getElem? ht)
  unfold Goes
  rcases h1 with ⟨h1, _⟩ | ⟨h1, h3⟩
  · have f1 := find_mem hl h1
    rcases h2 with ⟨h2, h4⟩ | ⟨h2, _⟩
    · have f2 := find_mem hl h2
      rw [← ha, f1] at f2
      cases f2
      exact Or.inl ⟨f1, find_not (h4 rfl), rfl⟩
    · have f2 := find_mem hm h2
      rw [← ha] at f2
      exact Or.inr (Or.inr ⟨f1, f2⟩)
  · have f1 := find_mem hm h1
    have hn := h3 (by decide)
    rcases h2 with ⟨h2, _⟩ | ⟨h2, _⟩
    · exact absurd ha.symm (hn t h2)
    · have f2 := find_mem hm h2
      rw [← ha, f1] at f2
      cases f2
      exact Or.inr (Or.inl ⟨find_not hn, f1, rfl⟩)
theorem join_valid {how : Int} {l m : List Res} (hl : validR l = true) (hm : validR m = true) (h : (joinO how l m).length ≤ 32) : validR (joinO how l m) = true := by
  obtain ⟨_, a1, a2⟩ := valid_iff.1 hl
  obtain ⟨_, b1, b2⟩ := valid_iff.1 hm
  refine valid_iff.2 ⟨h, fun x hx => ?_, join_up how l m a2 b2⟩
  rcases join_mem how l m a2 b2 x hx with ⟨h1, _⟩ | ⟨h1, _⟩
  · exact a1 x h1
  · exact b1 x h1
end Go.Proofs.Ytjdkeabimcajlaa

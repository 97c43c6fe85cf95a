/- Two tables joined. No program in sight. -/
import Derived.Test.YtjdkeabimcajlaaCh
set_option linter.unusedVariables false
set_option linter.unusedSimpArgs false
namespace Go.Proofs.Ytjdkeabimcajlaa
open Go.RowKit

def pickR (how : Int) (x y : Res) : Res := if how = 2 then y else x
/-- What is laid out of the two. -/
def joinO (how : Int) : List Res → List Res → List Res
  | [], m => m
  | x :: l, [] => x :: l
  | x :: l, y :: m => if Lib.compareBytes x.act y.act < 0 then x :: joinO how l (y :: m) else if Lib.compareBytes y.act x.act < 0 then y :: joinO how (x :: l) m else pickR how x y :: joinO how l m
termination_by l m => l.length + m.length
/-- The actions over which they differ. -/
def joinK : List Res → List Res → List (List UInt8)
  | [], _ => []
  | _ :: _, [] => []
  | x :: l, y :: m => if Lib.compareBytes x.act y.act < 0 then joinK l (y :: m) else if Lib.compareBytes y.act x.act < 0 then joinK (x :: l) m else (if x = y then [] else [x.act]) ++ joinK l m
termination_by l m => l.length + m.length
def knownHow (how : Int) : Prop := how = 1 ∨ how = 2 ∨ how = 3
instance (how : Int) : Decidable (knownHow how) := inferInstanceAs (Decidable (_ ∨ _ ∨ _))
def joinC (how : Int) (l m : List Res) : Int :=
  if ¬ knownHow how then 1 else if ¬ (validR l = true ∧ validR m = true) then 80 else if how = 3 ∧ joinK l m ≠ [] then 150 else if 32 < (joinO how l m).length then 97 else 0
def joinT (how : Int) (l m : List Res) : List Res := if joinC how l m = 0 then joinO how l m else []
def joinI (how : Int) (l m : List Res) : List (List UInt8) := if joinC how l m = 0 ∨ joinC how l m = 150 then joinK l m else []

theorem joinO_nil (how : Int) (m : List Res) : joinO how [] m = m := by rw [joinO]
theorem joinO_end (how : Int) (l : List Res) : joinO how l [] = l := by cases l <;> rw [joinO]
theorem joinO_lt {how : Int} {x y : Res} {l m : List Res} (h : Lib.compareBytes x.act y.act < 0) : joinO how (x :: l) (y :: m) = x :: joinO how l (y :: m) := by rw [joinO, if_pos h]
theorem joinO_gt {how : Int} {x y : Res} {l m : List Res} (h0 : ¬ Lib.compareBytes x.act y.act < 0) (h : Lib.compareBytes y.act x.act < 0) : joinO how (x :: l) (y :: m) = y :: joinO how (x :: l) m := by rw [joinO, if_neg h0, if_pos h]
theorem joinO_eq {how : Int} {x y : Res} {l m : List Res} (h0 : ¬ Lib.compareBytes x.act y.act < 0) (h : ¬ Lib.compareBytes y.act x.act < 0) : joinO how (x :: l) (y :: m) = pickR how x y :: joinO how l m := by rw [joinO, if_neg h0, if_neg h]
theorem joinK_nil (m : List Res) : joinK [] m = [] := by rw [joinK]
theorem joinK_end (l : List Res) : joinK l [] = [] := by cases l <;> rw [joinK]
theorem joinK_lt {x y : Res} {l m : List Res} (h : Lib.compareBytes x.act y.act < 0) : joinK (x :: l) (y :: m) = joinK l (y :: m) := by rw [joinK, if_pos h]
theorem joinK_gt {x y : Res} {l m : List Res} (h0 : ¬ Lib.compareBytes x.act y.act < 0) (h : Lib.compareBytes y.act x.act < 0) : joinK (x :: l) (y :: m) = joinK (x :: l) m := by rw [joinK, if_neg h0, if_pos h]
theorem joinK_eq {x y : Res} {l m : List Res} (h0 : ¬ Lib.compareBytes x.act y.act < 0) (h : ¬ Lib.compareBytes y.act x.act < 0) : joinK (x :: l) (y :: m) = (if x = y then [] else [x.act]) ++ joinK l m := by rw [joinK, if_neg h0, if_neg h]

/-- The cells of a list of ids. -/
def idCells (k : List (List UInt8)) : List Value := k.flatMap bs
theorem idCells_append (k j : List (List UInt8)) : idCells (k ++ j) = idCells k ++ idCells j := List.flatMap_append
theorem idCells_one (i : List UInt8) : idCells [i] = bs i := by simp [idCells]

/-- The rest behind the first. -/
theorem RsIn.tail {w : World} {b off n c : Nat} {x : Res} {l : List Res} (h : RsIn w (some ⟨b, off, none⟩) (n + 1) c (x :: l)) : RsIn w (if c = 1 then some ⟨b, off, none⟩ else some ⟨b, off + 65, none⟩) n (c - 1) l := by
  have hl := h.hlen
  have hle := h.hle
  have hm := h.max
  have hs := h.short
  refine ⟨by simpa using hl, ?_, by omega, fun e => absurd e (by split <;> simp), by omega, by omega⟩
  by_cases hc : c = 1
  · have : l = [] := List.eq_nil_of_length_eq_zero (by simp at hl; omega)
    subst this; exact Or.inl rfl
  · rw [if_neg hc]
    rcases h.rd with e | ⟨b', o', e, hr⟩
    · have := congrArg List.length e
      rw [cellsOf_len] at this; simp at this
    · obtain ⟨rfl, rfl⟩ : b = b' ∧ off = o' := by simpa using e
      refine Or.inr ⟨b, off + 65, rfl, fun k v hk => ?_⟩
      rw [Nat.add_assoc]
      refine hr (65 + k) v ?_
      have e2 : cellsOf (x :: l) = x.cells ++ cellsOf l := by simp [cellsOf]
      rw [e2, List.getElem?_append_right (by rw [x.len]; omega), x.len, Nat.add_sub_cancel_left]
      exact hk
/-- The first. -/
theorem RsIn.head {w : World} {a : Option Addr} {n c : Nat} {x : Res} {l : List Res} (h : RsIn w a n c (x :: l)) : ∃ b off, a = some ⟨b, off, none⟩ ∧ w.rangeAt b off x.cells := by
  have hl := h.hlen
  obtain ⟨y, b, off, e, ea, r⟩ := h.at (i := 0) (by simp at hl; omega)
  have : x = y := by simpa using e
  subst this
  exact ⟨b, off, ea, by simpa using r⟩

/-- What Join gives: a table, ids, a code. -/
def GiveJ (w : World) (rs : List Res) (ids : List (List UInt8)) (code : Int) (e : Ending) (w' : World) : Prop :=
  ∃ a' c' ai ci, e = .returned (.tuple #[.slice a' rs.length c', .slice ai ids.length ci, .int .i64 code]) ∧ Sl w' 39 65 (.slice a' rs.length c') rs.length (cellsOf rs) ∧ Sl w' 37 32 (.slice ai ids.length ci) ids.length (idCells ids) ∧ Fr w [] (blks (.slice a' rs.length c')) ∧ Fr w [] (blks (.slice ai ids.length ci)) ∧ Keep [] w w'
theorem GiveJ.none {w w' : World} {code : Int} (k : Keep [] w w') : GiveJ w [] [] code (.returned (.tuple #[.slice none 0 0, .slice none 0 0, .int .i64 code])) w' :=
  ⟨_, _, _, _, rfl, Sl.nil _ _ _, Sl.nil _ _ _, by intro b hb; simp [blks, Value.ownBlock] at hb, by intro b hb; simp [blks, Value.ownBlock] at hb, k⟩
theorem GiveJ.give {w w' : World} {rs : List Res} {ids : List (List UInt8)} {code : Int} {a ai : Option Addr} {n c ni ci : Nat} (hn : rs.length = n) (hi : ids.length = ni) (s : Sl w' 39 65 (.slice a n c) n (cellsOf rs)) (t : Sl w' 37 32 (.slice ai ni ci) ni (idCells ids)) (f : Fr w [] (blks (.slice a n c))) (g : Fr w [] (blks (.slice ai ni ci))) (k : Keep [] w w') :
    GiveJ w rs ids code (.returned (.tuple #[.slice a n c, .slice ai ni ci, .int .i64 code])) w' := by
  subst hn; subst hi; exact ⟨a, c, ai, ci, rfl, s, t, f, g, k⟩
theorem join_how {how : Int} {l m : List Res} (h : ¬ knownHow how) : joinC how l m = 1 ∧ joinT how l m = [] ∧ joinI how l m = [] := by
  have : joinC how l m = 1 := by simp [joinC, h]
  exact ⟨this, by simp [joinT, this], by simp [joinI, this]⟩
theorem join_bad {how : Int} {l m : List Res} (h : knownHow how) (h' : ¬ (validR l = true ∧ validR m = true)) : joinC how l m = 80 ∧ joinT how l m = [] ∧ joinI how l m = [] := by
  have : joinC how l m = 80 := by rw [joinC, if_neg (by simpa using h), if_pos h']
  exact ⟨this, by simp [joinT, this], by simp [joinI, this]⟩
theorem join_clash {how : Int} {l m : List Res} (h : knownHow how) (h' : validR l = true ∧ validR m = true) (h3 : how = 3 ∧ joinK l m ≠ []) : joinC how l m = 150 ∧ joinT how l m = [] ∧ joinI how l m = joinK l m := by
  have : joinC how l m = 150 := by rw [joinC, if_neg (by simpa using h), if_neg (by simpa using h'), if_pos h3]
  exact ⟨this, by simp [joinT, this], by simp [joinI, this]⟩
theorem join_long {how : Int} {l m : List Res} (h : knownHow how) (h' : validR l = true ∧ validR m = true) (h3 : ¬ (how = 3 ∧ joinK l m ≠ [])) (h4 : 32 < (joinO how l m).length) : joinC how l m = 97 ∧ joinT how l m = [] ∧ joinI how l m = [] := by
  have : joinC how l m = 97 := by rw [joinC, if_neg (by simpa using h), if_neg (by simpa using h'), if_neg h3, if_pos h4]
  exact ⟨this, by simp [joinT, this], by simp [joinI, this]⟩
theorem join_yes {how : Int} {l m : List Res} (h : knownHow how) (h' : validR l = true ∧ validR m = true) (h3 : ¬ (how = 3 ∧ joinK l m ≠ [])) (h4 : ¬ 32 < (joinO how l m).length) : joinC how l m = 0 ∧ joinT how l m = joinO how l m ∧ joinI how l m = joinK l m := by
  have : joinC how l m = 0 := by rw [joinC, if_neg (by simpa using h), if_neg (by simpa using h'), if_neg h3, if_neg h4]
  exact ⟨this, by simp [joinT, this], by simp [joinI, this]⟩
end Go.Proofs.Ytjdkeabimcajlaa

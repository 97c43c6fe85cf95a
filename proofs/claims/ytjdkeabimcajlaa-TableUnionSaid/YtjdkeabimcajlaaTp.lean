/- What the laws of Encode and With stand on. -/
import Derived.Test.YtjdkeabimcajlaaAw
set_option linter.unusedVariables false
set_option linter.unusedSimpArgs false
namespace Go.Proofs.Ytjdkeabimcajlaa
open Go.RowKit

def encX (l : List Res) : List UInt8 := if validR l = true then encR l else []
def encC (l : List Res) : Int := if validR l = true then 0 else 80
/-- What both Encodes give. -/
def GiveB (w : World) (xs : List UInt8) (code : Int) (e : Ending) (w' : World) : Prop :=
  ∃ (a' : Option Addr) (n' c' : Nat), e = .returned (.tuple #[.slice a' n' c', .int .i64 code]) ∧ xs.length = n' ∧ Rd w' a' (bs xs) ∧ Fr w [] (blks (.slice a' n' c')) ∧ n' ≤ 140737488355328 ∧ Keep [] w w'
theorem encX_len {l : List Res} : (encX l).length ≤ 140737488355328 := by
  unfold encX
  split
  · rename_i h
    have h32 : l.length ≤ 32 := by have := h; simp only [validR, Bool.and_eq_true, decide_eq_true_eq] at this; exact this.1
    have := (numB_len5 (v := l.length) (by omega)).2
    rw [encR, List.length_append, flat_len]; omega
  · simp
theorem encode_any (a : Option Addr) (n c : Nat) (l : List Res) (w : World) (hx : RsIn w a n c l) : Calls Try.prog 14 #[.slice a n c] w (GiveB w (encX l) (encC l)) := by
  have hlen := @encX_len l
  cases hv : validR l with
  | false =>
    refine (encode_no a n c l w hx hv).mono ?_
    rintro e w' ⟨rfl, k⟩
    refine ⟨none, 0, 0, by simp [encC, hv], by simp [encX, hv], by simp [encX, hv, bs]; exact Or.inl rfl, by intro b hb; simp [blks, Value.ownBlock] at hb, by omega, k⟩
  | true =>
    refine (encode_yes a n c l w hx hv).mono ?_
    rintro e w' ⟨a', c', rfl, s, f, k⟩
    have e1 : encX l = encR l := by simp [encX, hv]
    rw [e1] at hlen ⊢
    exact ⟨a', _, c', by simp [encC, hv], rfl, s.rd, f, hlen, k⟩
theorem refEncode_any (a : Option Addr) (n c : Nat) (l : List Res) (w : World) (hx : RsIn w a n c l) : Calls Try.prog 15 #[.slice a n c] w (GiveB w (encX l) (encC l)) := by
  have hlen := @encX_len l
  cases hv : validR l with
  | false =>
    refine (refEncode_no a n c l w hx hv).mono ?_
    rintro e w' ⟨rfl, k⟩
    refine ⟨none, 0, 0, by simp [encC, hv], by simp [encX, hv], by simp [encX, hv, bs]; exact Or.inl rfl, by intro b hb; simp [blks, Value.ownBlock] at hb, by omega, k⟩
  | true =>
    refine (refEncode_yes a n c l w hx hv).mono ?_
    rintro e w' ⟨a', c', rfl, s, f, k⟩
    have e1 : encX l = encR l := by simp [encX, hv]
    rw [e1] at hlen ⊢
    exact ⟨a', _, c', by simp [encC, hv], rfl, s.rd, f, hlen, k⟩
theorem same_eq (a b : Option Addr) (n c m d : Nat) (xs : List UInt8) (w : World) (hx : xs.length = n) (rx : Rd w a (bs xs)) (hy : xs.length = m) (ry : Rd w b (bs xs)) (hn : n ≤ 140737488355328) :
    Calls Try.prog 16 #[.slice a n c, .slice b m d] w fun e w' => e = .returned (.bool true) ∧ Keep [] w w' := by
  have h := same_any a b n c m d xs xs w hx rx hy ry hn
  rwa [decide_eq_true rfl] at h
theorem kept_eq (g n c : Nat) (a : Option Addr) (l : List Res) (w : World) (hB : Blk w g (cellsOf (l ++ tails)).toArray 39) (hl : l.length = n) (hx : RsIn w a n c l) :
    Calls Try.prog 19 #[.slice (some ⟨g, 0, none⟩) (n + 3) (n + 3), .slice a n c] w fun e w' => e = .returned (.bool true) ∧ Keep [] w w' := by
  have h := kept_any g n c a l l w hB hl hx
  rwa [decide_eq_true rfl] at h
/-- The room's head, as a table. -/
theorem room_in {w : World} {g n : Nat} {l : List Res} (hB : Blk w g (cellsOf (l ++ tails)).toArray 39) (hl : l.length = n) (hs : n * 72 ≤ 140737488351232) : RsIn w (some ⟨g, 0, none⟩) n (n + 3) l := RsIn.of_blk hB hl (by omega) (by omega) hs
theorem copy_room (w : World) (g n c c9 : Nat) (a9 : Option Addr) (l k : List Res) (hB : Blk w g (cellsOf (l ++ tails)).toArray 39) (hl : l.length = n) (hk : k.length = n) (hx : RsIn w a9 n c9 k) (h0 : a9 = none → c9 = 0 ∧ n = 0) :
    ∃ w', (∀ ty, (Builtin.copy_ #[22, 22] ty #[.slice (some ⟨g, 0, none⟩) n c, .slice a9 n c9]).run Try.prog w = .ok (goInt (n : Nat)) w') ∧ (Blk w' g (cellsOf (k ++ tails)).toArray 39 ∧ Keep [g] w w') := by
  cases a9 with
  | none =>
    obtain ⟨rfl, rfl⟩ := h0 rfl
    have e1 : l = [] := List.eq_nil_of_length_eq_zero hl
    have e2 : k = [] := List.eq_nil_of_length_eq_zero hk
    subst e1; subst e2
    exact ⟨w, fun ty => run_copy_nil (P := Try.prog) w 22 22 ty 39 _ 0 c Try.underlying22 (by rw [hs39]; rfl), hB, Keep.refl _ _⟩
  | some ad =>
    have hrd : ∀ j v, (cellsOf k)[j]? = some v → w.cell? (ad.add j) = some v := fun j v hj => by
      rcases hx.rd with e | ⟨b, o, e, hc⟩
      · rw [e] at hj; simp at hj
      · have e' : ad = ⟨b, o, none⟩ := by simpa using e
        rw [e', add_off]; exact hc j v hj
    have h := copy_blk w 22 22 39 65 g 0 n c ad n c9 n (cellsOf (l ++ tails)) [] (cellsOf l) (cellsOf tails) (cellsOf k) 39 Try.underlying22 hs39 hB (Nat.min_self n) (by rw [cellsOf_len, hk]) hrd (cellsOf_all k) (by rw [cellsOf_append]; rfl) rfl (by rw [cellsOf_len, cellsOf_len, hl, hk])
    simpa [cellsOf_append] using h
theorem RsIn.nil0 {w : World} {a : Option Addr} {n c : Nat} {l : List Res} (h : RsIn w a n c l) (e : a = none) : c = 0 ∧ n = 0 := by have := h.hnil e; have := h.hle; omega

def codeR (y : Res) (z : Int) : Res := ⟨y.act, y.root, z, y.la, y.lr⟩
theorem codeR_cells (y : Res) (z : Int) : y.cells.set 64 (.int .i64 z) = (codeR y z).cells := by
  have h : (bs y.act).length = 32 := by rw [bs_length, y.la]
  have h2 : (bs y.root).length = 32 := by rw [bs_length, y.lr]
  unfold Res.cells codeR
  rw [List.set_append_right _ _ (by omega), h, List.set_append_right _ _ (by omega), h2]
  rfl
theorem bad_first {y : Res} {l : List Res} : validR (codeR y 300 :: l) = false := by
  by_cases h : (codeR y 300 :: l).length ≤ 32
  · rw [valid_long h]
    exact okTo_no (n := 0) (step_unfit (x := codeR y 300) rfl (fit_no (z := 300) rfl (by omega))) (by simp)
  · exact valid_short h
end Go.Proofs.Ytjdkeabimcajlaa

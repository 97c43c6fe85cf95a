/- TableOneForm: its walk. -/
import Derived.Test.YtjdkeabimcajlaaRq
import Derived.Test.YtjdkeabimcajlaaPb
import Derived.Test.YtjdkeabimcajlaaTw
import Derived.Test.YtjdkeabimcajlaaVc
set_option linter.unusedVariables false
set_option linter.unusedSimpArgs false
namespace Go.Proofs.Ytjdkeabimcajlaa
open Go.RowKit

/-- What both Parses give, the length under a name. -/
def GiveP (w : World) (rs : List Res) (code : Int) (e : Ending) (w' : World) : Prop :=
  ∃ a' n' c', e = .returned (.tuple #[.slice a' n' c', .int .i64 code]) ∧ RsIn w' a' n' c' rs ∧ Fr w [] (blks (.slice a' n' c')) ∧ Keep [] w w'
theorem parse_give (a : Option Addr) (n c : Nat) (d : List UInt8) (w : World) (hl : d.length = n) (hc : a = none → c = 0) (hrd : Rd w a (bs d)) (hn : n ≤ 140737488355328) :
    Calls Try.prog 32 #[.slice a n c] w (GiveP w (parT d) (parC d)) := (parse_any a n c d w hl hc hrd hn).mono (fun e w' h => give_name h (parT_short d))
theorem refParse_give (a : Option Addr) (n c : Nat) (d : List UInt8) (w : World) (hl : d.length = n) (hc : a = none → c = 0) (hrd : Rd w a (bs d)) (hnc : n ≤ c) (hn : n ≤ 140737488355328) :
    Calls Try.prog 33 #[.slice a n c] w (GiveP w (parT d) (parC d)) := (refParse_any a n c d w hl hc hrd hnc hn).mono (fun e w' h => give_name h (parT_short d))

set_option maxHeartbeats 2000000 in
set_option maxRecDepth 100000 in
theorem tableOneForm_walk (a : Option Addr) (n c : Nat) (d : List UInt8) (w : World) (hx : InBytes w a n c d) :
    Calls Try.prog 11 #[.slice a n c] w fun e w' => e = .returned (.bool true) ∧ Keep [] w w' := by
  have hl := hx.hlen
  have hsh := hx.short
  have HL := Lib.hid hl
  have hp := parse_give a n c d w hl hx.hnil hx.rd (by omega)
  cases hpar : parO d with
  | none =>
    obtain ⟨g1, g2⟩ := par_no hpar
    rw [g1, g2] at hp
    have HP := Lib.hid hp
    clear hp hpar g1 g2 hl
    go_enter Try.func11, Try.ntmps11
    go_upto_region 2 with (first
      | (go_at_call 32; refine HP.out.mono ?_; rintro e w1 ⟨a3, n3, c3, rfl, t3, f3, k3⟩)
      | fail)
    obtain rfl : n3 = 0 := t3.hlen.symm
    go_wp2_with (first
      | (go_at_call 21; refine (awake_any _).mono ?_; rintro e wH ⟨rfl, kH⟩)
      | fail)
    go_returns
    exact ⟨rfl, k3.trans' kH⟩
  | some l =>
    obtain ⟨g1, g2⟩ := par_yes hpar
    rw [g1, g2] at hp
    have hv := par_valid hpar
    have he := enc_par hpar
    have HP := Lib.hid hp
    have E1 := Lib.hid (fun a n c W h => by have := encode_any a n c l W h; rwa [encX, encC, if_pos hv, if_pos hv, he] at this : ∀ a n c W, RsIn W a n c l → Calls Try.prog 14 #[.slice a n c] W (GiveB W d 0))
    have F1 := Lib.hid (fun a n c W h => by have := lawFits_any a n c l W h; rwa [hv] at this : ∀ a n c W, RsIn W a n c l → Calls Try.prog 28 #[.slice a n c] W fun e w' => e = .returned (.bool true) ∧ Keep [] W w')
    clear hp hpar g1 g2 hl hv he
    go_enter Try.func11, Try.ntmps11
    go_upto_region 4 with (first
      | (go_at_call 32; refine HP.out.mono ?_; rintro e w1 ⟨a3, n3, c3, rfl, t3, f3, k3⟩)
      | fail)
    go_upto_region 5 with (first
      | (go_at_call 14; refine (E1.out _ _ _ _ t3).mono ?_; rintro e w2 ⟨a5, n5, c5, rfl, l5, r5, f5, m5, k5⟩)
      | fail)
    have kk5 := k3.trans' k5
    have hx5 := hx.rd.keep kk5 (fun _ => by simp)
    have t5 := t3.keep k5 (by simp)
    go_wp2_with (first
      | (go_at_call 16; refine (same_eq a5 a n5 c5 n c d _ l5 r5 HL.out hx5 m5).mono ?_; rintro e w6 ⟨rfl, k6⟩)
      | (go_at_call 28; refine (F1.out _ _ _ _ (t5.keep k6 (by simp))).mono ?_; rintro e w7 ⟨rfl, k7⟩)
      | (go_at_call 21; refine (awake_any _).mono ?_; rintro e wH ⟨rfl, kH⟩)
      | fail)
    go_returns
    exact ⟨rfl, ((kk5.trans' k6).trans' k7).trans' kH⟩
end Go.Proofs.Ytjdkeabimcajlaa

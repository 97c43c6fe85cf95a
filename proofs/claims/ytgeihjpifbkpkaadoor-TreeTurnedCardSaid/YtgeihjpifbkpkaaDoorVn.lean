/- Which names may be an entry's: Valid of the program and of the law. -/
import Derived.Test.YtgeihjpifbkpkaaDoorV
import Derived.Ground.NamesProg
import Derived.Shelf.Lay
import Derived.Shelf.Unicode.ValidAny
import Derived.Laws.RangeAny
import Derived.Lib.ValidLaws
import Derived.Lib.TrimU
set_option linter.unusedVariables false
set_option linter.unusedSimpArgs false
namespace Go.Proofs.YtgeihjpifbkpkaaDoor
open Go.RowKit

def okB (b : Nat) : Prop := ¬ (b < 32 ∨ b = 127 ∨ b = 47)
instance (b : Nat) : Decidable (okB b) := inferInstanceAs (Decidable (¬ _))
def okTo (s : ByteArray) (n : Nat) : Prop := ∀ i, i < n → okB (byteS s i)
instance (s : ByteArray) (n : Nat) : Decidable (okTo s n) := inferInstanceAs (Decidable (∀ i, i < n → _))
def nameB (s : ByteArray) : Bool := decide (s.toList.isEmpty = false ∧ s.size ≤ 32 ∧ (s.toList == [46]) = false ∧ (s.toList == [46, 46]) = false ∧ okTo s s.size) && Lib.validD s.data.toList
def vdAt (s : ByteArray) (i : Nat) : Bool := Lib.validD (s.data.toList.drop i)
theorem ext_list (s : ByteArray) (i : Nat) : (s.extract i s.size).data.toList = s.data.toList.drop i := Lib.ext_list s i
theorem vd_step {s : ByteArray} {i : Nat} (h : i < s.size) : vdAt s i = if scS (s.extract i s.size) = 0 then false else vdAt s (i + scS (s.extract i s.size)) := by
  have hl : s.data.toList.length = s.size := Array.length_toList
  have hne : s.data.toList.drop i ≠ [] := by
    intro e; have := congrArg List.length e; rw [List.length_drop, hl, List.length_nil] at this; omega
  have hz : (s.extract i s.size).size = s.size - i := Lib.ext_size s i
  have hd : Lib.decodeL (s.data.toList.drop i) = Lib.decodeN (s.extract i s.size).size (byteS (s.extract i s.size) 0) (byteS (s.extract i s.size) 1) (byteS (s.extract i s.size) 2) (byteS (s.extract i s.size) 3) := by
    rw [← ext_list]
    exact Lib.decode_at (s.extract i s.size) 0
  unfold vdAt
  rw [Lib.validD_step _ hne, hd, scS, scN]
  obtain ⟨r, n, hrn⟩ : ∃ r n, Lib.decodeN (s.extract i s.size).size (byteS (s.extract i s.size) 0) (byteS (s.extract i s.size) 1) (byteS (s.extract i s.size) 2) (byteS (s.extract i s.size) 3) = (r, n) := ⟨_, _, rfl⟩
  have hn1 : 1 ≤ n := by have := Lib.decodeN_ge1 (s.extract i s.size).size (byteS (s.extract i s.size) 0) (byteS (s.extract i s.size) 1) (byteS (s.extract i s.size) 2) (byteS (s.extract i s.size) 3); rw [hrn] at this; exact this
  rw [hrn]
  simp only
  by_cases hb : r = 65533 ∧ n = 1
  · rw [if_pos hb, hb.1, hb.2]; rfl
  · have hb2 : ¬ (r, n) = (65533, 1) := fun e => hb (by simpa using e)
    rw [if_neg hb, if_neg hb2, if_neg (by omega), List.drop_drop]
theorem sc_le {t : ByteArray} (h : 0 < t.size) : scS t ≤ t.size := by
  unfold scS scN
  split
  · omega
  · unfold Lib.decodeN
    repeat' split
    all_goals simp only
    all_goals omega

theorem name_no1 {s : ByteArray} (h : s.toList.isEmpty = true ∨ 32 < s.size ∨ (s.toList == [46]) = true ∨ (s.toList == [46, 46]) = true) : nameB s = false := by
  unfold nameB
  rw [decide_eq_false]; rfl
  rintro ⟨h1, h2, h3, h4, _⟩
  rcases h with h | h | h | h
  · rw [h1] at h; cases h
  · omega
  · rw [h3] at h; cases h
  · rw [h4] at h; cases h
theorem name_no2 {s : ByteArray} {i : Nat} (hi : i < s.size) (h : byteS s i < 32 ∨ byteS s i = 127 ∨ byteS s i = 47) : nameB s = false := by
  unfold nameB
  rw [decide_eq_false]; rfl
  rintro ⟨_, _, _, _, h5⟩
  exact h5 i hi h
theorem name_no3 {s : ByteArray} (h : vdAt s 0 = false) : nameB s = false := by
  have : Lib.validD s.data.toList = false := by simpa [vdAt] using h
  unfold nameB; rw [this, Bool.and_false]
theorem name_yes {s : ByteArray} (h1 : s.toList.isEmpty = false) (h2 : ¬ 32 < s.size) (h3 : (s.toList == [46]) = false) (h4 : (s.toList == [46, 46]) = false) (h5 : okTo s s.size) (h6 : vdAt s 0 = true) : nameB s = true := by
  have : Lib.validD s.data.toList = true := by simpa [vdAt] using h6
  unfold nameB; rw [this, decide_eq_true ⟨h1, by omega, h3, h4, h5⟩]; rfl
theorem vd_end {s : ByteArray} {i : Nat} (h : s.size ≤ i) : vdAt s i = true := by
  have hl : s.data.toList.length = s.size := Array.length_toList
  unfold vdAt
  rw [List.drop_eq_nil_of_le (by omega)]; rfl

set_option maxHeartbeats 2000000 in
set_option maxRecDepth 100000 in
theorem refValid_any (s : ByteArray) (w : World) (hs : s.size ≤ 9223372036854775807) :
    Calls Tryd.prog 12 #[.string s] w fun e w' => e = .returned (.bool (nameB s)) ∧ w' = w := by
  obtain ⟨ans, hans⟩ : ∃ a, nameB s = a := ⟨_, rfl⟩
  have HA := Lib.hid hans
  rw [hans]
  clear hans
  cases q1 : s.toList.isEmpty with
  | true =>
    have H1 := Lib.hid q1
    go_enter Tryd.func12, Tryd.ntmps12
    go_wp2_with fail
    go_returns
    exact ⟨by rw [← HA.out, name_no1 (Or.inl H1.out)]; rfl, rfl⟩
  | false =>
  by_cases h2 : 32 < s.size
  · have q2 : (32 : Int) < s.size := by omega
    have H2 := Lib.hid h2
    go_enter Tryd.func12, Tryd.ntmps12
    go_wp2_with fail
    go_returns
    exact ⟨by rw [← HA.out, name_no1 (Or.inr (Or.inl H2.out))]; rfl, rfl⟩
  have q2 : ¬ (32 : Int) < s.size := by omega
  cases q3 : (s.toList == [46]) with
  | true =>
    have H1 := Lib.hid q3
    go_enter Tryd.func12, Tryd.ntmps12
    go_wp2_with fail
    go_returns
    exact ⟨by rw [← HA.out, name_no1 (Or.inr (Or.inr (Or.inl H1.out)))]; rfl, rfl⟩
  | false =>
  cases q4 : (s.toList == [46, 46]) with
  | true =>
    have H1 := Lib.hid q4
    go_enter Tryd.func12, Tryd.ntmps12
    go_wp2_with fail
    go_returns
    exact ⟨by rw [← HA.out, name_no1 (Or.inr (Or.inr (Or.inr H1.out)))]; rfl, rfl⟩
  | false =>
  have HN := Lib.hid (And.intro q1 (And.intro h2 (And.intro q3 q4)))
  have n32 : s.size ≤ 32 := by omega
  go_enter Tryd.func12, Tryd.ntmps12
  go_upto_region 4 with fail
  go_loopw [3] (fun v3 wr => ∃ i : Nat, i ≤ s.size ∧ v3 = .int .i64 (i : Nat) ∧ Hid (okTo s i) ∧ wr = w) (fun v3 _ => s.size - (intOf v3).toNat)
  case atStart => exact ⟨0, by omega, rfl, Lib.hid (fun i h => by omega), rfl⟩
  case round =>
    obtain ⟨i, hi, rfl, HO, rfl⟩ := hrel
    by_cases hlt : i < s.size
    · have j0 : (0 : Int) ≤ i := by omega
      have j1 : (i : Int) < s.size := by omega
      have ei := byteS_at hlt
      obtain ⟨b, hb⟩ : ∃ b, byteS s i = b := ⟨_, rfl⟩
      have hbl : b < 256 := by rw [← hb]; exact byteS_lt s i
      rw [hb] at ei
      have HB := Lib.hid hb
      clear hb
      by_cases p1 : b < 32
      · have k1 : (b : Int) < 32 := by omega
        go_wp2_with fail
        all_goals (go_returns; exact ⟨by rw [← HA.out, name_no2 hlt (by rw [HB.out]; omega)]; rfl, rfl⟩)
      have k1 : ¬ (b : Int) < 32 := by omega
      by_cases p2 : b = 127
      · have k2 : ((b : Int) == 127) = true := by simp; omega
        go_wp2_with fail
        all_goals (go_returns; exact ⟨by rw [← HA.out, name_no2 hlt (by rw [HB.out]; omega)]; rfl, rfl⟩)
      have k2 : ((b : Int) == 127) = false := by simp; omega
      by_cases p3 : b = 47
      · have k3 : ((b : Int) == 47) = true := by simp; omega
        go_wp2_with fail
        all_goals (go_returns; exact ⟨by rw [← HA.out, name_no2 hlt (by rw [HB.out]; omega)]; rfl, rfl⟩)
      have k3 : ((b : Int) == 47) = false := by simp; omega
      go_wp2_with fail
      refine ⟨⟨i + 1, by omega, by go_num, Lib.hid ?_, by trivial⟩, by simp [intOf]; omega⟩
      intro k hk
      by_cases e : k = i
      · subst e; unfold okB; rw [HB.out]; omega
      · exact HO.out k (by omega)
    · obtain rfl : i = s.size := by omega
      go_upto_region 9 with fail
      go_loopw [4, 5] (fun v4 _ wx => ∃ i : Nat, i ≤ s.size ∧ v4 = .int .i64 (i : Nat) ∧ Hid (vdAt s i = vdAt s 0) ∧ wx = wr) (fun v4 _ _ => s.size - (intOf v4).toNat)
      case atStart => exact ⟨0, by omega, rfl, Lib.hid rfl, rfl⟩
      case round =>
        obtain ⟨i, hi, rfl, HV, rfl⟩ := hrel
        by_cases hlt : i < s.size
        · have j0 : (0 : Int) ≤ i := by omega
          have j1 : (i : Int) ≤ s.size := by omega
          have j2 : (i : Int) < s.size := by omega
          have hz := Lib.ext_size s i
          have hst := vd_step hlt
          have hsl := sc_le (t := s.extract i s.size) (by omega)
          obtain ⟨t, ht⟩ : ∃ t, s.extract i s.size = t := ⟨_, rfl⟩
          rw [ht] at hst hsl hz
          have HTT := Lib.hid ht
          clear ht
          have C := Lib.hid (fun W => scalar_any t W (by omega) (by omega))
          obtain ⟨k, hk⟩ : ∃ k, scS t = k := ⟨_, rfl⟩
          rw [hk] at C hst hsl
          have HST := Lib.hid hst
          have HZ := Lib.hid hz
          clear hz hst hk
          by_cases p1 : k = 0
          · have k1 : ((k : Int) == 0) = true := by simp; omega
            go_wp2_with (first
              | (go_at_call 29; rw [HTT.out]; refine (C.out _).mono ?_; rintro e w1 ⟨rfl, rfl⟩)
              | fail)
            go_returns
            exact ⟨by rw [← HA.out, name_no3 (by rw [← HV.out, HST.out, if_pos p1])]; rfl, rfl⟩
          · have k1 : ((k : Int) == 0) = false := by simp; omega
            have k2 : i + k ≤ s.size := by have := HZ.out; omega
            go_wp2_with (first
              | (go_at_call 29; rw [HTT.out]; refine (C.out _).mono ?_; rintro e w1 ⟨rfl, rfl⟩)
              | fail)
            refine ⟨⟨i + k, k2, by go_num, Lib.hid ?_, by trivial⟩, by simp [intOf]; omega⟩
            rw [← HV.out, HST.out, if_neg p1]
        · obtain rfl : i = s.size := by omega
          go_wp2_with fail
          go_returns
          exact ⟨by rw [← HA.out, name_yes HN.out.1 HN.out.2.1 HN.out.2.2.1 HN.out.2.2.2 HO.out (by rw [← HV.out]; exact vd_end (Nat.le_refl _))]; rfl, rfl⟩
end Go.Proofs.YtgeihjpifbkpkaaDoor

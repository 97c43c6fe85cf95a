/- scalar of the law: its walk. -/
import Derived.Test.YtgeihjpifbkpkaaDoorVp
set_option linter.unusedVariables false
set_option linter.unusedSimpArgs false
namespace Go.Proofs.YtgeihjpifbkpkaaDoor
open Go.RowKit

set_option maxHeartbeats 4000000 in
set_option maxRecDepth 100000 in
theorem scalar_any (s : ByteArray) (w : World) (h : 0 < s.size) (hs : s.size ≤ 9223372036854775807) :
    Calls Tryd.prog 29 #[.string s] w fun e w' => e = .returned (.int .i64 (scS s : Nat)) ∧ w' = w := by
  have i0 : (0 : Int) < s.size := by omega
  have e0 := byteS_at h
  obtain ⟨b0, hb0⟩ : ∃ b, byteS s 0 = b := ⟨_, rfl⟩
  have hlt : b0 < 256 := by rw [← hb0]; exact byteS_lt s 0
  have w0 : wrap64 (b0 : Int) = b0 := by unfold wrap64; omega
  rw [hb0] at e0
  have HB := Lib.hid hb0
  obtain ⟨ans, hans⟩ : ∃ a, scS s = a := ⟨_, rfl⟩
  have HA := Lib.hid hans
  rw [hans]
  clear hb0 hans
  by_cases q1 : b0 < 128
  · have i1 : (b0 : Int) < 128 := by omega
    go_enter Tryd.func29, Tryd.ntmps29
    go_wp2_with fail
    go_returns
    exact ⟨by rw [← HA.out, sc_low (by rw [HB.out]; exact q1)]; rfl, rfl⟩
  have i1 : ¬ (b0 : Int) < 128 := by omega
  by_cases q2 : b0 < 192
  · have i2 : ¬ (192 : Int) ≤ b0 := by omega
    have i3 : ¬ (224 : Int) ≤ b0 := by omega
    have i4 : ¬ (240 : Int) ≤ b0 := by omega
    go_enter Tryd.func29, Tryd.ntmps29
    go_wp2_with fail
    go_returns
    exact ⟨by rw [← HA.out, sc_none (by rw [HB.out]; omega)]; rfl, rfl⟩
  have i2 : (192 : Int) ≤ b0 := by omega
  by_cases q5 : 248 ≤ b0
  · have i3 : ¬ (b0 : Int) < 224 := by omega
    have i4 : ¬ (b0 : Int) < 240 := by omega
    have i5 : ¬ (b0 : Int) < 248 := by omega
    have i6 : (224 : Int) ≤ b0 := by omega
    have i7 : (240 : Int) ≤ b0 := by omega
    go_enter Tryd.func29, Tryd.ntmps29
    go_wp2_with fail
    go_returns
    exact ⟨by rw [← HA.out, sc_none (by rw [HB.out]; omega)]; rfl, rfl⟩
  have i5 : (b0 : Int) < 248 := by omega
  by_cases q3 : b0 < 224
  · have i3 : (b0 : Int) < 224 := by omega
    have HLD := Lib.hid (show leadS 2 (byteS s 0) by rw [HB.out]; unfold leadS; omega)
    by_cases qs : s.size < 2
    · have j1 : (s.size : Int) < 2 := by omega
      go_enter Tryd.func29, Tryd.ntmps29
      go_wp2_with fail
      go_returns
      exact ⟨by rw [← HA.out, sc_short HLD.out qs]; rfl, rfl⟩
    · have j1 : ¬ (s.size : Int) < 2 := by omega
      have hacc : accS s (c0S 2 (byteS s 0)) 1 = b0 - 192 := by rw [HB.out]; rfl
      obtain ⟨c0, hc0⟩ : ∃ c0, b0 - 192 = c0 := ⟨_, rfl⟩
      rw [hc0] at hacc
      have hc1 : (b0 : Int) - 192 = c0 := by omega
      have HC1 := Lib.hid hc1
      clear hc0 hc1
      go_enter Tryd.func29, Tryd.ntmps29
      go_upto_region 22 with fail
      go_loopw [3, 6] (fun v3 v6 wr => ∃ j c : Nat, 1 ≤ j ∧ j ≤ 2 ∧ v6 = .int .i64 (j : Nat) ∧ v3 = .int .i64 (c : Nat) ∧ Hid (accS s (c0S 2 (byteS s 0)) j = c) ∧ Hid (okS s j) ∧ wr = w) (fun _ v6 _ => 2 - (intOf v6).toNat)
      case atStart => exact ⟨1, c0, by omega, by omega, rfl, by rw [← HC1.out], Lib.hid hacc, Lib.hid (fun k a b => by omega), rfl⟩
      case round =>
        obtain ⟨j, c, hj1, hjn, rfl, rfl, HC, HO, rfl⟩ := hrel
        clear hacc w0 e0
        have hc64 := acc_bound HLD.out (show j ≤ 4 by omega) HO.out
        rw [HC.out] at hc64
        by_cases hlt : j < 2
        · have j0 : (0 : Int) ≤ j := by omega
          have j3 : (j : Int) < 2 := by omega
          have j4 : (j : Int) < s.size := by omega
          have j5 : j < s.size := by omega
          have ej := byteS_at j5
          obtain ⟨bj, hbj⟩ : ∃ b, byteS s j = b := ⟨_, rfl⟩
          have hjl : bj < 256 := by rw [← hbj]; exact byteS_lt s j
          have wj : wrap64 (bj : Int) = bj := by unfold wrap64; omega
          rw [hbj] at ej
          have HBJ := Lib.hid hbj
          clear hbj
          by_cases p1 : bj < 128
          · have k1 : (bj : Int) < 128 := by omega
            go_wp2_with fail
            go_returns
            exact ⟨by rw [← HA.out, sc_bad HLD.out hj1 hlt (by rw [HBJ.out]; exact Or.inl p1)]; rfl, rfl⟩
          have k1 : ¬ (bj : Int) < 128 := by omega
          by_cases p2 : 191 < bj
          · have k2 : (191 : Int) < bj := by omega
            go_wp2_with fail
            go_returns
            exact ⟨by rw [← HA.out, sc_bad HLD.out hj1 hlt (by rw [HBJ.out]; exact Or.inr p2)]; rfl, rfl⟩
          have k2 : ¬ (191 : Int) < bj := by omega
          go_wp2_with fail
          refine ⟨⟨j + 1, 64 * c + (bj - 128), by omega, by omega, by go_num, by go_num, Lib.hid ?_, Lib.hid ?_, by trivial⟩, by simp [intOf]; omega⟩
          · rw [accS, if_neg (by omega), HC.out, HBJ.out]
          · intro k a b
            by_cases e : k = j
            · subst e; rw [HBJ.out]; omega
            · exact HO.out k a (by omega)
        · obtain rfl : j = 2 := by omega
          have hend := sc_end HLD.out (by omega) HO.out HC.out
          have hle : leastS 2 = 128 := rfl
          rw [hle] at hend
          by_cases p1 : c < 128
          · have k1 : (c : Int) < 128 := by omega
            go_wp2_with fail
            go_returns
            exact ⟨by rw [← HA.out, hend, if_pos (Or.inl p1)]; rfl, rfl⟩
          have k1 : ¬ (c : Int) < 128 := by omega
          by_cases p2 : 1114111 < c
          · have k2 : (1114111 : Int) < c := by omega
            go_wp2_with fail
            go_returns
            exact ⟨by rw [← HA.out, hend, if_pos (Or.inr (Or.inl p2))]; rfl, rfl⟩
          have k2 : ¬ (1114111 : Int) < c := by omega
          by_cases p3 : 55296 ≤ c
          · have k3 : (55296 : Int) ≤ c := by omega
            by_cases p4 : c < 57344
            · have k4 : (c : Int) < 57344 := by omega
              go_wp2_with fail
              go_returns
              exact ⟨by rw [← HA.out, hend, if_pos (Or.inr (Or.inr ⟨p3, p4⟩))]; rfl, rfl⟩
            · have k4 : ¬ (c : Int) < 57344 := by omega
              go_wp2_with fail
              go_returns
              exact ⟨by rw [← HA.out, hend, if_neg (by omega)]; rfl, rfl⟩
          · have k3 : ¬ (55296 : Int) ≤ c := by omega
            go_wp2_with fail
            go_returns
            exact ⟨by rw [← HA.out, hend, if_neg (by omega)]; rfl, rfl⟩
  have i3 : ¬ (b0 : Int) < 224 := by omega
  have i6 : (224 : Int) ≤ b0 := by omega
  by_cases q4 : b0 < 240
  · have i4 : (b0 : Int) < 240 := by omega
    have HLD := Lib.hid (show leadS 3 (byteS s 0) by rw [HB.out]; unfold leadS; omega)
    by_cases qs : s.size < 3
    · have j1 : (s.size : Int) < 3 := by omega
      go_enter Tryd.func29, Tryd.ntmps29
      go_wp2_with fail
      go_returns
      exact ⟨by rw [← HA.out, sc_short HLD.out qs]; rfl, rfl⟩
    · have j1 : ¬ (s.size : Int) < 3 := by omega
      have hacc : accS s (c0S 3 (byteS s 0)) 1 = b0 - 224 := by rw [HB.out]; rfl
      obtain ⟨c0, hc0⟩ : ∃ c0, b0 - 224 = c0 := ⟨_, rfl⟩
      rw [hc0] at hacc
      have hc1 : (b0 : Int) - 224 = c0 := by omega
      have HC1 := Lib.hid hc1
      clear hc0 hc1
      go_enter Tryd.func29, Tryd.ntmps29
      go_upto_region 22 with fail
      go_loopw [3, 6] (fun v3 v6 wr => ∃ j c : Nat, 1 ≤ j ∧ j ≤ 3 ∧ v6 = .int .i64 (j : Nat) ∧ v3 = .int .i64 (c : Nat) ∧ Hid (accS s (c0S 3 (byteS s 0)) j = c) ∧ Hid (okS s j) ∧ wr = w) (fun _ v6 _ => 3 - (intOf v6).toNat)
      case atStart => exact ⟨1, c0, by omega, by omega, rfl, by rw [← HC1.out], Lib.hid hacc, Lib.hid (fun k a b => by omega), rfl⟩
      case round =>
        obtain ⟨j, c, hj1, hjn, rfl, rfl, HC, HO, rfl⟩ := hrel
        clear hacc w0 e0
        have hc64 := acc_bound HLD.out (show j ≤ 4 by omega) HO.out
        rw [HC.out] at hc64
        by_cases hlt : j < 3
        · have j0 : (0 : Int) ≤ j := by omega
          have j3 : (j : Int) < 3 := by omega
          have j4 : (j : Int) < s.size := by omega
          have j5 : j < s.size := by omega
          have ej := byteS_at j5
          obtain ⟨bj, hbj⟩ : ∃ b, byteS s j = b := ⟨_, rfl⟩
          have hjl : bj < 256 := by rw [← hbj]; exact byteS_lt s j
          have wj : wrap64 (bj : Int) = bj := by unfold wrap64; omega
          rw [hbj] at ej
          have HBJ := Lib.hid hbj
          clear hbj
          by_cases p1 : bj < 128
          · have k1 : (bj : Int) < 128 := by omega
            go_wp2_with fail
            go_returns
            exact ⟨by rw [← HA.out, sc_bad HLD.out hj1 hlt (by rw [HBJ.out]; exact Or.inl p1)]; rfl, rfl⟩
          have k1 : ¬ (bj : Int) < 128 := by omega
          by_cases p2 : 191 < bj
          · have k2 : (191 : Int) < bj := by omega
            go_wp2_with fail
            go_returns
            exact ⟨by rw [← HA.out, sc_bad HLD.out hj1 hlt (by rw [HBJ.out]; exact Or.inr p2)]; rfl, rfl⟩
          have k2 : ¬ (191 : Int) < bj := by omega
          go_wp2_with fail
          refine ⟨⟨j + 1, 64 * c + (bj - 128), by omega, by omega, by go_num, by go_num, Lib.hid ?_, Lib.hid ?_, by trivial⟩, by simp [intOf]; omega⟩
          · rw [accS, if_neg (by omega), HC.out, HBJ.out]
          · intro k a b
            by_cases e : k = j
            · subst e; rw [HBJ.out]; omega
            · exact HO.out k a (by omega)
        · obtain rfl : j = 3 := by omega
          have hend := sc_end HLD.out (by omega) HO.out HC.out
          have hle : leastS 3 = 2048 := rfl
          rw [hle] at hend
          by_cases p1 : c < 2048
          · have k1 : (c : Int) < 2048 := by omega
            go_wp2_with fail
            go_returns
            exact ⟨by rw [← HA.out, hend, if_pos (Or.inl p1)]; rfl, rfl⟩
          have k1 : ¬ (c : Int) < 2048 := by omega
          by_cases p2 : 1114111 < c
          · have k2 : (1114111 : Int) < c := by omega
            go_wp2_with fail
            go_returns
            exact ⟨by rw [← HA.out, hend, if_pos (Or.inr (Or.inl p2))]; rfl, rfl⟩
          have k2 : ¬ (1114111 : Int) < c := by omega
          by_cases p3 : 55296 ≤ c
          · have k3 : (55296 : Int) ≤ c := by omega
            by_cases p4 : c < 57344
            · have k4 : (c : Int) < 57344 := by omega
              go_wp2_with fail
              go_returns
              exact ⟨by rw [← HA.out, hend, if_pos (Or.inr (Or.inr ⟨p3, p4⟩))]; rfl, rfl⟩
            · have k4 : ¬ (c : Int) < 57344 := by omega
              go_wp2_with fail
              go_returns
              exact ⟨by rw [← HA.out, hend, if_neg (by omega)]; rfl, rfl⟩
          · have k3 : ¬ (55296 : Int) ≤ c := by omega
            go_wp2_with fail
            go_returns
            exact ⟨by rw [← HA.out, hend, if_neg (by omega)]; rfl, rfl⟩
  have i4 : ¬ (b0 : Int) < 240 := by omega
  have i7 : (240 : Int) ≤ b0 := by omega
  have HLD := Lib.hid (show leadS 4 (byteS s 0) by rw [HB.out]; unfold leadS; omega)
  by_cases qs : s.size < 4
  · have j1 : (s.size : Int) < 4 := by omega
    go_enter Tryd.func29, Tryd.ntmps29
    go_wp2_with fail
    go_returns
    exact ⟨by rw [← HA.out, sc_short HLD.out qs]; rfl, rfl⟩
  · have j1 : ¬ (s.size : Int) < 4 := by omega
    have hacc : accS s (c0S 4 (byteS s 0)) 1 = b0 - 240 := by rw [HB.out]; rfl
    obtain ⟨c0, hc0⟩ : ∃ c0, b0 - 240 = c0 := ⟨_, rfl⟩
    rw [hc0] at hacc
    have hc1 : (b0 : Int) - 240 = c0 := by omega
    have HC1 := Lib.hid hc1
    clear hc0 hc1
    go_enter Tryd.func29, Tryd.ntmps29
    go_upto_region 22 with fail
    go_loopw [3, 6] (fun v3 v6 wr => ∃ j c : Nat, 1 ≤ j ∧ j ≤ 4 ∧ v6 = .int .i64 (j : Nat) ∧ v3 = .int .i64 (c : Nat) ∧ Hid (accS s (c0S 4 (byteS s 0)) j = c) ∧ Hid (okS s j) ∧ wr = w) (fun _ v6 _ => 4 - (intOf v6).toNat)
    case atStart => exact ⟨1, c0, by omega, by omega, rfl, by rw [← HC1.out], Lib.hid hacc, Lib.hid (fun k a b => by omega), rfl⟩
    case round =>
      obtain ⟨j, c, hj1, hjn, rfl, rfl, HC, HO, rfl⟩ := hrel
      clear hacc w0 e0
      have hc64 := acc_bound HLD.out (show j ≤ 4 by omega) HO.out
      rw [HC.out] at hc64
      by_cases hlt : j < 4
      · have j0 : (0 : Int) ≤ j := by omega
        have j3 : (j : Int) < 4 := by omega
        have j4 : (j : Int) < s.size := by omega
        have j5 : j < s.size := by omega
        have ej := byteS_at j5
        obtain ⟨bj, hbj⟩ : ∃ b, byteS s j = b := ⟨_, rfl⟩
        have hjl : bj < 256 := by rw [← hbj]; exact byteS_lt s j
        have wj : wrap64 (bj : Int) = bj := by unfold wrap64; omega
        rw [hbj] at ej
        have HBJ := Lib.hid hbj
        clear hbj
        by_cases p1 : bj < 128
        · have k1 : (bj : Int) < 128 := by omega
          go_wp2_with fail
          go_returns
          exact ⟨by rw [← HA.out, sc_bad HLD.out hj1 hlt (by rw [HBJ.out]; exact Or.inl p1)]; rfl, rfl⟩
        have k1 : ¬ (bj : Int) < 128 := by omega
        by_cases p2 : 191 < bj
        · have k2 : (191 : Int) < bj := by omega
          go_wp2_with fail
          go_returns
          exact ⟨by rw [← HA.out, sc_bad HLD.out hj1 hlt (by rw [HBJ.out]; exact Or.inr p2)]; rfl, rfl⟩
        have k2 : ¬ (191 : Int) < bj := by omega
        go_wp2_with fail
        refine ⟨⟨j + 1, 64 * c + (bj - 128), by omega, by omega, by go_num, by go_num, Lib.hid ?_, Lib.hid ?_, by trivial⟩, by simp [intOf]; omega⟩
        · rw [accS, if_neg (by omega), HC.out, HBJ.out]
        · intro k a b
          by_cases e : k = j
          · subst e; rw [HBJ.out]; omega
          · exact HO.out k a (by omega)
      · obtain rfl : j = 4 := by omega
        have hend := sc_end HLD.out (by omega) HO.out HC.out
        have hle : leastS 4 = 65536 := rfl
        rw [hle] at hend
        by_cases p1 : c < 65536
        · have k1 : (c : Int) < 65536 := by omega
          go_wp2_with fail
          go_returns
          exact ⟨by rw [← HA.out, hend, if_pos (Or.inl p1)]; rfl, rfl⟩
        have k1 : ¬ (c : Int) < 65536 := by omega
        by_cases p2 : 1114111 < c
        · have k2 : (1114111 : Int) < c := by omega
          go_wp2_with fail
          go_returns
          exact ⟨by rw [← HA.out, hend, if_pos (Or.inr (Or.inl p2))]; rfl, rfl⟩
        have k2 : ¬ (1114111 : Int) < c := by omega
        by_cases p3 : 55296 ≤ c
        · have k3 : (55296 : Int) ≤ c := by omega
          by_cases p4 : c < 57344
          · have k4 : (c : Int) < 57344 := by omega
            go_wp2_with fail
            go_returns
            exact ⟨by rw [← HA.out, hend, if_pos (Or.inr (Or.inr ⟨p3, p4⟩))]; rfl, rfl⟩
          · have k4 : ¬ (c : Int) < 57344 := by omega
            go_wp2_with fail
            go_returns
            exact ⟨by rw [← HA.out, hend, if_neg (by omega)]; rfl, rfl⟩
        · have k3 : ¬ (55296 : Int) ≤ c := by omega
          go_wp2_with fail
          go_returns
          exact ⟨by rw [← HA.out, hend, if_neg (by omega)]; rfl, rfl⟩
end Go.Proofs.YtgeihjpifbkpkaaDoor

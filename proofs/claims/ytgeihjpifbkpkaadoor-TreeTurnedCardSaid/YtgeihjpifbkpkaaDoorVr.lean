/- Valid of the program. -/
import Derived.Test.YtgeihjpifbkpkaaDoorVn
set_option linter.unusedVariables false
set_option linter.unusedSimpArgs false
namespace Go.Proofs
open Go.Shelf
shelf_lay Lays.n196 Nm 196 at Tryd as Tryd.laysValid
end Go.Proofs
namespace Go.Proofs.YtgeihjpifbkpkaaDoor
open Go.RowKit

/-- The library's two tables are as its text lays them. -/
def Tabs (w : World) : Prop := Lib.Utf8Tabs (Tryd.laysValid_ren.g 3) (Tryd.laysValid_ren.g 4) w
theorem Tabs.keep {w w' : World} (h : Tabs w) (k : Keep [] w w') : Tabs w' := Utf8Tabs_below h (k.below (by simp))
theorem validString_any (s : ByteArray) (w : World) (hs : s.size ≤ 9223372036854775807) (hT : Tabs w) :
    Calls Tryd.prog 28 #[.string s] w fun e w' => e = .returned (.bool (vdAt s 0)) ∧ Keep [] w w' := by
  refine (Any.utf8_ValidString Tryd.laysValid s w hs hT).mono ?_
  rintro e w' ⟨rfl, hb⟩
  exact ⟨by rw [vdAt, List.drop_zero], Keep.of_below hb⟩

theorem byteS_list (s : ByteArray) (k : Nat) : byteS s k = (s.data.toList.getD k 0).toNat := by
  unfold byteS
  congr 1
  show s.data[k]! = _
  rw [Array.getElem!_eq_getD, Array.getD_eq_getD_getElem?, List.getD_eq_getElem?_getD, Array.getElem?_toList]
  rfl
theorem byteS_ext (s : ByteArray) (i k : Nat) : byteS (s.extract i s.size) k = byteS s (i + k) := by
  rw [byteS_list, byteS_list, ext_list, List.getD_eq_getElem?_getD, List.getD_eq_getElem?_getD, List.getElem?_drop]
theorem decode_ext (s : ByteArray) (i : Nat) : Utf8.decode s i = Lib.decodeN (s.extract i s.size).size (byteS (s.extract i s.size) 0) (byteS (s.extract i s.size) 1) (byteS (s.extract i s.size) 2) (byteS (s.extract i s.size) 3) := by
  rw [Lib.decode_at, byteS_ext, byteS_ext, byteS_ext, byteS_ext, Lib.ext_size]; rfl
theorem rune_step {s : ByteArray} {i : Nat} (h : i < s.size) (hv : vdAt s i = true) :
    i + (Utf8.decode s i).2 ≤ s.size ∧ 1 ≤ (Utf8.decode s i).2 ∧ vdAt s (i + (Utf8.decode s i).2) = true ∧ (((Utf8.decode s i).1 < 32 ∨ (Utf8.decode s i).1 = 127 ∨ (Utf8.decode s i).1 = 47) → byteS s i < 32 ∨ byteS s i = 127 ∨ byteS s i = 47) ∧
    (¬ ((Utf8.decode s i).1 < 32 ∨ (Utf8.decode s i).1 = 127 ∨ (Utf8.decode s i).1 = 47) → ∀ k, i ≤ k → k < i + (Utf8.decode s i).2 → okB (byteS s k)) := by
  have hst := vd_step h
  have hz := Lib.ext_size s i
  have hle := sc_le (t := s.extract i s.size) (by omega)
  have hd := decode_ext s i
  by_cases h0 : scS (s.extract i s.size) = 0
  · rw [hst, if_pos h0] at hv; cases hv
  rw [if_neg h0] at hst
  have hn : (Utf8.decode s i).2 = scS (s.extract i s.size) := by
    rw [hd]; unfold scS scN at h0 ⊢
    split at h0
    · exact absurd rfl h0
    · rename_i hq; rw [if_neg hq]
  have hvalid : ¬ Utf8.decode s i = (65533, 1) := by
    intro e; apply h0; unfold scS scN; rw [← hd, if_pos e]
  have b0 := byteS_ext s i 0
  have b1 := byteS_ext s i 1
  have b2 := byteS_ext s i 2
  have b3 := byteS_ext s i 3
  rw [Nat.add_zero] at b0
  rw [b0, b1, b2, b3] at hd
  obtain ⟨r, n, hrn⟩ : ∃ r n, Utf8.decode s i = (r, n) := ⟨_, _, rfl⟩
  rw [hrn] at hd hn hvalid ⊢
  simp only at hn ⊢
  have hk : 1 ≤ n ∧ ((byteS s i < 128 ∧ r = byteS s i ∧ n = 1) ∨ (128 ≤ byteS s i ∧ 128 ≤ r ∧ n ≤ 4 ∧ (2 ≤ n → 128 ≤ byteS s (i + 1)) ∧ (3 ≤ n → 128 ≤ byteS s (i + 2)) ∧ (4 ≤ n → 128 ≤ byteS s (i + 3)))) := by
    unfold Lib.decodeN at hd
    repeat' split at hd
    all_goals first
      | exact absurd hd hvalid
      | (obtain ⟨rfl, rfl⟩ : r = _ ∧ n = _ := by simpa using hd
         omega)
  obtain ⟨hn1, hk⟩ := hk
  refine ⟨by omega, hn1, by rw [hn, ← hst]; exact hv, fun hb => ?_, fun hb k h1 h2 => ?_⟩
  · rcases hk with ⟨_, rfl, _⟩ | ⟨_, h2, _⟩
    · exact hb
    · omega
  · unfold okB
    rcases hk with ⟨_, rfl, rfl⟩ | ⟨h3, h4, h5, h6, h7, h8⟩
    · obtain rfl : k = i := by omega
      exact hb
    · have hkk : k = i ∨ k = i + 1 ∨ k = i + 2 ∨ k = i + 3 := by omega
      rcases hkk with rfl | rfl | rfl | rfl
      · omega
      · have := h6 (by omega); omega
      · have := h7 (by omega); omega
      · have := h8 (by omega); omega

set_option maxHeartbeats 2000000 in
set_option maxRecDepth 100000 in
theorem valid_any (s : ByteArray) (w : World) (hs : s.size ≤ 9223372036854775807) (hT : Tabs w) :
    Calls Tryd.prog 11 #[.string s] w fun e w' => e = .returned (.bool (nameB s)) ∧ Keep [] w w' := by
  obtain ⟨ans, hans⟩ : ∃ a, nameB s = a := ⟨_, rfl⟩
  have HA := Lib.hid hans
  rw [hans]
  clear hans
  cases q1 : s.toList.isEmpty with
  | true =>
    have H1 := Lib.hid q1
    go_enter Tryd.func11, Tryd.ntmps11
    go_wp2_with fail
    go_returns
    exact ⟨by rw [← HA.out, name_no1 (Or.inl H1.out)]; rfl, Keep.refl _ _⟩
  | false =>
  by_cases h2 : 32 < s.size
  · have q2 : (32 : Int) < s.size := by omega
    have H2 := Lib.hid h2
    go_enter Tryd.func11, Tryd.ntmps11
    go_wp2_with fail
    go_returns
    exact ⟨by rw [← HA.out, name_no1 (Or.inr (Or.inl H2.out))]; rfl, Keep.refl _ _⟩
  have q2 : ¬ (32 : Int) < s.size := by omega
  cases q3 : (s.toList == [46]) with
  | true =>
    have H1 := Lib.hid q3
    go_enter Tryd.func11, Tryd.ntmps11
    go_wp2_with fail
    go_returns
    exact ⟨by rw [← HA.out, name_no1 (Or.inr (Or.inr (Or.inl H1.out)))]; rfl, Keep.refl _ _⟩
  | false =>
  cases q4 : (s.toList == [46, 46]) with
  | true =>
    have H1 := Lib.hid q4
    go_enter Tryd.func11, Tryd.ntmps11
    go_wp2_with fail
    go_returns
    exact ⟨by rw [← HA.out, name_no1 (Or.inr (Or.inr (Or.inr H1.out)))]; rfl, Keep.refl _ _⟩
  | false =>
  have C := validString_any s w hs hT
  cases hv : vdAt s 0 with
  | false =>
    rw [hv] at C
    have HC := Lib.hid C
    have HV := Lib.hid hv
    clear C hv
    go_enter Tryd.func11, Tryd.ntmps11
    go_wp2_with (first
      | (go_at_call 28; refine HC.out.mono ?_; rintro e w1 ⟨rfl, k1⟩)
      | fail)
    go_returns
    exact ⟨by rw [← HA.out, name_no3 HV.out]; rfl, k1⟩
  | true =>
    rw [hv] at C
    have HC := Lib.hid C
    have HV := Lib.hid hv
    have HN := Lib.hid (And.intro q1 (And.intro h2 (And.intro q3 q4)))
    clear C hv
    go_enter Tryd.func11, Tryd.ntmps11
    go_upto_region 4 with (first
      | (go_at_call 28; refine HC.out.mono ?_; rintro e w1 ⟨rfl, k1⟩)
      | fail)
    go_loopw [4] (fun _ wr => ∃ pos : Nat, wr = w1.iter s pos ∧ Hid (pos ≤ s.size ∧ okTo s pos ∧ vdAt s pos = true)) (fun _ wr => s.size - wr.iterPos w1.heap.size)
    case atStart => exact ⟨0, rfl, Lib.hid ⟨by omega, fun i h => by omega, HV.out⟩⟩
    case round =>
      obtain ⟨pos, rfl, HP⟩ := hrel
      have kI : Keep [] w (w1.iter s pos) := k1.alloc _
      by_cases hp : pos < s.size
      · have hnx : ∀ ty, (Instr.next (.pointer (some ⟨w1.heap.size, 0, none⟩)) true ty).run Tryd.prog (w1.iter s pos) = _ := fun ty => run_next_any w1 s pos ty hp
        have hst := rune_step hp HP.out.2.2
        obtain ⟨r, hr⟩ : ∃ r, (Utf8.decode s pos).1 = r := ⟨_, rfl⟩
        obtain ⟨n, hn⟩ : ∃ n, (Utf8.decode s pos).2 = n := ⟨_, rfl⟩
        rw [hr, hn] at hst
        simp only [hr, hn] at hnx
        have HST := Lib.hid hst
        have HPS := Lib.hid hp
        clear hst hr hn
        by_cases p1 : r < 32
        · have j1 : (r : Int) < 32 := by omega
          go_wp2_with fail
          go_returns
          exact ⟨by rw [← HA.out, name_no2 HPS.out (HST.out.2.2.2.1 (by omega))]; rfl, k1.alloc _⟩
        have j1 : ¬ (r : Int) < 32 := by omega
        by_cases p2 : r = 127
        · have j2 : ((r : Int) == 127) = true := by simp; omega
          go_wp2_with fail
          go_returns
          exact ⟨by rw [← HA.out, name_no2 HPS.out (HST.out.2.2.2.1 (by omega))]; rfl, k1.alloc _⟩
        have j2 : ((r : Int) == 127) = false := by simp; omega
        by_cases p3 : r = 47
        · have j3 : ((r : Int) == 47) = true := by simp; omega
          go_wp2_with fail
          go_returns
          exact ⟨by rw [← HA.out, name_no2 HPS.out (HST.out.2.2.2.1 (by omega))]; rfl, k1.alloc _⟩
        have j3 : ((r : Int) == 47) = false := by simp; omega
        go_wp2_with fail
        refine ⟨⟨pos + n, rfl, Lib.hid ⟨HST.out.1, ?_, HST.out.2.2.1⟩⟩, ?_⟩
        · intro k hk
          by_cases hkp : k < pos
          · exact HP.out.2.1 k hkp
          · exact HST.out.2.2.2.2 (by omega) k (by omega) hk
        · have := HST.out.1; have := HST.out.2.1; simp; omega
      · have hnx : ∀ ty, (Instr.next (.pointer (some ⟨w1.heap.size, 0, none⟩)) true ty).run Tryd.prog (w1.iter s pos) = _ := fun ty => run_next_end w1 s pos ty hp
        have HPE := Lib.hid hp
        go_wp2_with fail
        go_returns
        have e : pos = s.size := by have := HP.out.1; have := HPE.out; omega
        exact ⟨by rw [← HA.out, name_yes HN.out.1 HN.out.2.1 HN.out.2.2.1 HN.out.2.2.2 (by rw [← e]; exact HP.out.2.1) HV.out]; rfl, kI⟩
end Go.Proofs.YtgeihjpifbkpkaaDoor

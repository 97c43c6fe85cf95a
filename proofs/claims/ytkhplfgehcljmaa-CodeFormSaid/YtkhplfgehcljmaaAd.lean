/- CodeNothing: nil Writers and Readers, a zero Reader. -/
import Derived.Test.YtkhplfgehcljmaaAc
set_option linter.unusedVariables false
set_option linter.unusedSimpArgs false
namespace Go.Proofs.Ytkhplfgehcljmaa
open Go.RowKit

/-- What a call of a nil Writer leaves: the desk. -/
def Laid (w : World) (D : Nat) (T : List Nat) (e : Ending) (w' : World) : Prop := e = .returned (.bool true) ∧ ∃ T', DkAt w' D T' ∧ Fr w T T' ∧ Keep T w w'

set_option maxHeartbeats 4000000 in
set_option maxRecDepth 100000 in
theorem writeN_num (D : Nat) (T : List Nat) (c : Cl) (a : Option Addr) (l cap : Nat) (w : World) (hD : DkAt w D T) (hin : InBytes w a l cap c.d) (haT : c.d ≠ [] → ablk a ∉ T) (hk : c.k = 1) :
    Calls Try.prog 21 #[.pointer none, clV c a l cap, .pointer (some ⟨D, 0, none⟩)] w (Laid w D T) := by
  obtain ⟨ck, cv, cu, cd⟩ := c
  obtain rfl : ck = 1 := hk
  simp only [clV] at hin haT ⊢
  have HL := Lib.hid hin.hlen
  have hre := hin.reach
  have hle := hin.hle
  obtain ⟨B, hBB⟩ : ∃ B, w.heap.size = B := ⟨_, rfl⟩
  obtain ⟨w1, hw1⟩ : ∃ w1, w.alloc (.cells #[.int .i64 1, .int .i64 cv, .int .i64 cu, .slice a l cap] 46) = w1 := ⟨_, rfl⟩
  have hC : Blk w1 B #[.int .i64 1, .int .i64 cv, .int .i64 cu, .slice a l cap] 46 := by rw [← hw1, ← hBB]; exact Blk.new w _ 46
  have k1 : Keep [] w w1 := by rw [← hw1]; exact (Keep.refl _ _).alloc _
  have hBT : B ∉ T := fun h => by have := hD.lt B h; omega
  have hD1 := hD.keep k1 (by simp)
  have hin1 := hin.keep k1 (by simp)
  go_enter Try.func21, Try.ntmps21
  go_upto_region 1 with fail
  clear hw1 hBB
  have d0 : w1.cell? ⟨B, 0, none⟩ = some (.int .i64 1) := hC.cell (i := 0) rfl
  have d1 : w1.cell? ⟨B, 1, none⟩ = some (.int .i64 cv) := hC.cell (i := 1) rfl
  have d2 : w1.cell? ⟨B, 2, none⟩ = some (.int .i64 cu) := hC.cell (i := 2) rfl
  have d3 : w1.cell? ⟨B, 3, none⟩ = some (.slice a l cap) := hC.cell (i := 3) rfl
  go_wp2_with (first
    | (go_at_call 34; refine (number_nil _ _).mono ?_; rintro e w2 ⟨rfl, hw⟩; have hw' := hw.symm; subst hw')
    | (go_at_call 15; refine (layD_any D T none 0 0 [] _ hD1 (nilIn _) (fun h => absurd rfl h)).mono ?_; rintro e w9 ⟨g9, c9, rfl, hd9, -, -, -, hk9, hf9, -⟩)
    | fail)
  go_returns
  exact ⟨rfl, [D, g9], hd9.1, hf9.le k1.size, (k1.mono (by simp)).trans hk9 (fun b hb => Or.inl hb)⟩

set_option maxHeartbeats 4000000 in
set_option maxRecDepth 100000 in
theorem writeN_fix (D : Nat) (T : List Nat) (c : Cl) (a : Option Addr) (l cap : Nat) (w : World) (hD : DkAt w D T) (hin : InBytes w a l cap c.d) (haT : c.d ≠ [] → ablk a ∉ T) (hk : c.k = 2) :
    Calls Try.prog 21 #[.pointer none, clV c a l cap, .pointer (some ⟨D, 0, none⟩)] w (Laid w D T) := by
  obtain ⟨ck, cv, cu, cd⟩ := c
  obtain rfl : ck = 2 := hk
  simp only [clV] at hin haT ⊢
  have HL := Lib.hid hin.hlen
  have hre := hin.reach
  have hle := hin.hle
  obtain ⟨B, hBB⟩ : ∃ B, w.heap.size = B := ⟨_, rfl⟩
  obtain ⟨w1, hw1⟩ : ∃ w1, w.alloc (.cells #[.int .i64 2, .int .i64 cv, .int .i64 cu, .slice a l cap] 46) = w1 := ⟨_, rfl⟩
  have hC : Blk w1 B #[.int .i64 2, .int .i64 cv, .int .i64 cu, .slice a l cap] 46 := by rw [← hw1, ← hBB]; exact Blk.new w _ 46
  have k1 : Keep [] w w1 := by rw [← hw1]; exact (Keep.refl _ _).alloc _
  have hBT : B ∉ T := fun h => by have := hD.lt B h; omega
  have hD1 := hD.keep k1 (by simp)
  have hin1 := hin.keep k1 (by simp)
  go_enter Try.func21, Try.ntmps21
  go_upto_region 1 with fail
  clear hw1 hBB
  have d0 : w1.cell? ⟨B, 0, none⟩ = some (.int .i64 2) := hC.cell (i := 0) rfl
  have d1 : w1.cell? ⟨B, 1, none⟩ = some (.int .i64 cv) := hC.cell (i := 1) rfl
  have d2 : w1.cell? ⟨B, 2, none⟩ = some (.int .i64 cu) := hC.cell (i := 2) rfl
  have d3 : w1.cell? ⟨B, 3, none⟩ = some (.slice a l cap) := hC.cell (i := 3) rfl
  go_wp2_with (first
    | (go_at_call 36; refine (fixed_nil _ _ _).mono ?_; rintro e w2 ⟨rfl, hw⟩; have hw' := hw.symm; subst hw')
    | (go_at_call 15; refine (layD_any D T none 0 0 [] _ hD1 (nilIn _) (fun h => absurd rfl h)).mono ?_; rintro e w9 ⟨g9, c9, rfl, hd9, -, -, -, hk9, hf9, -⟩)
    | fail)
  go_returns
  exact ⟨rfl, [D, g9], hd9.1, hf9.le k1.size, (k1.mono (by simp)).trans hk9 (fun b hb => Or.inl hb)⟩

set_option maxHeartbeats 4000000 in
set_option maxRecDepth 100000 in
theorem writeN_raw (D : Nat) (T : List Nat) (c : Cl) (a : Option Addr) (l cap : Nat) (w : World) (hD : DkAt w D T) (hin : InBytes w a l cap c.d) (haT : c.d ≠ [] → ablk a ∉ T) (hk : c.k = 3) :
    Calls Try.prog 21 #[.pointer none, clV c a l cap, .pointer (some ⟨D, 0, none⟩)] w (Laid w D T) := by
  obtain ⟨ck, cv, cu, cd⟩ := c
  obtain rfl : ck = 3 := hk
  simp only [clV] at hin haT ⊢
  have HL := Lib.hid hin.hlen
  have hre := hin.reach
  have hle := hin.hle
  obtain ⟨B, hBB⟩ : ∃ B, w.heap.size = B := ⟨_, rfl⟩
  obtain ⟨w1, hw1⟩ : ∃ w1, w.alloc (.cells #[.int .i64 3, .int .i64 cv, .int .i64 cu, .slice a l cap] 46) = w1 := ⟨_, rfl⟩
  have hC : Blk w1 B #[.int .i64 3, .int .i64 cv, .int .i64 cu, .slice a l cap] 46 := by rw [← hw1, ← hBB]; exact Blk.new w _ 46
  have k1 : Keep [] w w1 := by rw [← hw1]; exact (Keep.refl _ _).alloc _
  have hBT : B ∉ T := fun h => by have := hD.lt B h; omega
  have hD1 := hD.keep k1 (by simp)
  have hin1 := hin.keep k1 (by simp)
  have hc := Lib.hid (layD_any D T a l cap cd w1 hD1 hin1 haT)
  go_enter Try.func21, Try.ntmps21
  go_upto_region 1 with fail
  clear hw1 hBB
  have d0 : w1.cell? ⟨B, 0, none⟩ = some (.int .i64 3) := hC.cell (i := 0) rfl
  have d1 : w1.cell? ⟨B, 1, none⟩ = some (.int .i64 cv) := hC.cell (i := 1) rfl
  have d2 : w1.cell? ⟨B, 2, none⟩ = some (.int .i64 cu) := hC.cell (i := 2) rfl
  have d3 : w1.cell? ⟨B, 3, none⟩ = some (.slice a l cap) := hC.cell (i := 3) rfl
  go_upto_region 11 with (first
    | (go_at_call 15; refine hc.out.mono ?_; rintro e w2 ⟨g2, c2, rfl, hd2, hc5, hcm, hr2, hk2, hf2, hgD⟩)
    | (go_at_call 37; refine (raw_nil _ _).mono ?_; rintro e w3 ⟨rfl, hw⟩; have hw' := hw.symm; subst hw')
    | fail)
  have hC3 := hC.keep hk2 hBT
  have hin3 : Rd w2 a (bs cd) := (hin1.keep hk2 haT).rd
  have hlies := lies_any D g2 c2 a cap cd w2 hcm (by rw [HL.out]; omega) (by rw [HL.out]; omega) hd2.2 hin3
  rw [HL.out] at hlies
  have HLI := Lib.hid hlies
  clear d0 d1 d2 d3 hlies
  have d0 : w2.cell? ⟨B, 0, none⟩ = some (.int .i64 3) := hC3.cell (i := 0) rfl
  have d3 : w2.cell? ⟨B, 3, none⟩ = some (.slice a l cap) := hC3.cell (i := 3) rfl
  go_wp2_with (first
    | (go_at_call 17; refine HLI.out.mono ?_; rintro e w4 ⟨rfl, m, rfl⟩; have hD4 : DkAt (w2.drewN m) D [D, g2] := hd2.1.keep ((Keep.refl [] _).drewN) (by simp))
    | (go_at_call 15; refine (layD_any D [D, g2] none 0 0 [] _ hD4 (nilIn _) (fun h => absurd rfl h)).mono ?_; rintro e w9 ⟨g9, c9, rfl, hd9, -, -, -, hk9, hf9, -⟩)
    | fail)
  go_returns
  have kd : Keep [] w2 (w2.drewN m) := (Keep.refl _ _).drewN
  refine ⟨rfl, [D, g9], hd9.1, Fr.trans (hf2.le k1.size) hf9 (by have := k1.size; have := hk2.size; have := kd.size; omega), ?_⟩
  exact ((((k1.mono (by simp)).trans hk2 (fun b hb => Or.inl hb)) : Keep T w w2).drewN).trans hk9 (fun b hb => by
    rcases hf2 b hb with h | h
    · exact Or.inl h
    · exact Or.inr (by have := k1.size; omega))

set_option maxHeartbeats 4000000 in
set_option maxRecDepth 100000 in
theorem writeN_text (D : Nat) (T : List Nat) (c : Cl) (a : Option Addr) (l cap : Nat) (w : World) (hD : DkAt w D T) (hin : InBytes w a l cap c.d) (haT : c.d ≠ [] → ablk a ∉ T) (hk : c.k = 4) :
    Calls Try.prog 21 #[.pointer none, clV c a l cap, .pointer (some ⟨D, 0, none⟩)] w (Laid w D T) := by
  obtain ⟨ck, cv, cu, cd⟩ := c
  obtain rfl : ck = 4 := hk
  simp only [clV] at hin haT ⊢
  have HL := Lib.hid hin.hlen
  have hre := hin.reach
  have hle := hin.hle
  obtain ⟨B, hBB⟩ : ∃ B, w.heap.size = B := ⟨_, rfl⟩
  obtain ⟨w1, hw1⟩ : ∃ w1, w.alloc (.cells #[.int .i64 4, .int .i64 cv, .int .i64 cu, .slice a l cap] 46) = w1 := ⟨_, rfl⟩
  have hC : Blk w1 B #[.int .i64 4, .int .i64 cv, .int .i64 cu, .slice a l cap] 46 := by rw [← hw1, ← hBB]; exact Blk.new w _ 46
  have k1 : Keep [] w w1 := by rw [← hw1]; exact (Keep.refl _ _).alloc _
  have hBT : B ∉ T := fun h => by have := hD.lt B h; omega
  have hD1 := hD.keep k1 (by simp)
  have hin1 := hin.keep k1 (by simp)
  have hc := Lib.hid (layD_any D T a l cap cd w1 hD1 hin1 haT)
  go_enter Try.func21, Try.ntmps21
  go_upto_region 1 with fail
  clear hw1 hBB
  have d0 : w1.cell? ⟨B, 0, none⟩ = some (.int .i64 4) := hC.cell (i := 0) rfl
  have d1 : w1.cell? ⟨B, 1, none⟩ = some (.int .i64 cv) := hC.cell (i := 1) rfl
  have d2 : w1.cell? ⟨B, 2, none⟩ = some (.int .i64 cu) := hC.cell (i := 2) rfl
  have d3 : w1.cell? ⟨B, 3, none⟩ = some (.slice a l cap) := hC.cell (i := 3) rfl
  go_upto_region 11 with (first
    | (go_at_call 15; refine hc.out.mono ?_; rintro e w2 ⟨g2, c2, rfl, hd2, hc5, hcm, hr2, hk2, hf2, hgD⟩)
    | (go_at_call 38; refine (text_nil _ _ _ _).mono ?_; rintro e w3 ⟨rfl, hw⟩; have hw' := hw.symm; subst hw')
    | fail)
  have hC3 := hC.keep hk2 hBT
  have hin3 : Rd w2 a (bs cd) := (hin1.keep hk2 haT).rd
  have hlies := lies_any D g2 c2 a cap cd w2 hcm (by rw [HL.out]; omega) (by rw [HL.out]; omega) hd2.2 hin3
  rw [HL.out] at hlies
  have HLI := Lib.hid hlies
  clear d0 d1 d2 d3 hlies
  have d0 : w2.cell? ⟨B, 0, none⟩ = some (.int .i64 4) := hC3.cell (i := 0) rfl
  have d3 : w2.cell? ⟨B, 3, none⟩ = some (.slice a l cap) := hC3.cell (i := 3) rfl
  go_wp2_with (first
    | (go_at_call 17; refine HLI.out.mono ?_; rintro e w4 ⟨rfl, m, rfl⟩; have hD4 : DkAt (w2.drewN m) D [D, g2] := hd2.1.keep ((Keep.refl [] _).drewN) (by simp))
    | (go_at_call 15; refine (layD_any D [D, g2] none 0 0 [] _ hD4 (nilIn _) (fun h => absurd rfl h)).mono ?_; rintro e w9 ⟨g9, c9, rfl, hd9, -, -, -, hk9, hf9, -⟩)
    | fail)
  go_returns
  have kd : Keep [] w2 (w2.drewN m) := (Keep.refl _ _).drewN
  refine ⟨rfl, [D, g9], hd9.1, Fr.trans (hf2.le k1.size) hf9 (by have := k1.size; have := hk2.size; have := kd.size; omega), ?_⟩
  exact ((((k1.mono (by simp)).trans hk2 (fun b hb => Or.inl hb)) : Keep T w w2).drewN).trans hk9 (fun b hb => by
    rcases hf2 b hb with h | h
    · exact Or.inl h
    · exact Or.inr (by have := k1.size; omega))

set_option maxHeartbeats 4000000 in
set_option maxRecDepth 100000 in
theorem writeN_other (D : Nat) (T : List Nat) (c : Cl) (a : Option Addr) (l cap : Nat) (w : World) (hD : DkAt w D T) (hin : InBytes w a l cap c.d) (haT : c.d ≠ [] → ablk a ∉ T) (hk1 : (c.k == 1) = false) (hk2 : (c.k == 2) = false) (hk3 : (c.k == 3) = false) (hk4 : (c.k == 4) = false) :
    Calls Try.prog 21 #[.pointer none, clV c a l cap, .pointer (some ⟨D, 0, none⟩)] w (Laid w D T) := by
  obtain ⟨ck, cv, cu, cd⟩ := c
  simp only [clV] at hin haT hk1 hk2 hk3 hk4 ⊢
  have HL := Lib.hid hin.hlen
  have hre := hin.reach
  have hle := hin.hle
  obtain ⟨B, hBB⟩ : ∃ B, w.heap.size = B := ⟨_, rfl⟩
  obtain ⟨w1, hw1⟩ : ∃ w1, w.alloc (.cells #[.int .i64 ck, .int .i64 cv, .int .i64 cu, .slice a l cap] 46) = w1 := ⟨_, rfl⟩
  have hC : Blk w1 B #[.int .i64 ck, .int .i64 cv, .int .i64 cu, .slice a l cap] 46 := by rw [← hw1, ← hBB]; exact Blk.new w _ 46
  have k1 : Keep [] w w1 := by rw [← hw1]; exact (Keep.refl _ _).alloc _
  have hBT : B ∉ T := fun h => by have := hD.lt B h; omega
  have hD1 := hD.keep k1 (by simp)
  have hin1 := hin.keep k1 (by simp)
  go_enter Try.func21, Try.ntmps21
  go_upto_region 1 with fail
  clear hw1 hBB
  have d0 : w1.cell? ⟨B, 0, none⟩ = some (.int .i64 ck) := hC.cell (i := 0) rfl
  have d1 : w1.cell? ⟨B, 1, none⟩ = some (.int .i64 cv) := hC.cell (i := 1) rfl
  have d2 : w1.cell? ⟨B, 2, none⟩ = some (.int .i64 cu) := hC.cell (i := 2) rfl
  have d3 : w1.cell? ⟨B, 3, none⟩ = some (.slice a l cap) := hC.cell (i := 3) rfl
  go_wp2_with fail
  go_returns
  exact ⟨rfl, T, hD1, Fr.refl _ _, k1.mono (by simp)⟩

theorem writeN_any (D : Nat) (T : List Nat) (c : Cl) (a : Option Addr) (l cap : Nat) (w : World) (hD : DkAt w D T) (hin : InBytes w a l cap c.d) (haT : c.d ≠ [] → ablk a ∉ T) :
    Calls Try.prog 21 #[.pointer none, clV c a l cap, .pointer (some ⟨D, 0, none⟩)] w (Laid w D T) := by
  by_cases k1 : c.k = 1
  · exact writeN_num D T c a l cap w hD hin haT k1
  · by_cases k2 : c.k = 2
    · exact writeN_fix D T c a l cap w hD hin haT k2
    · by_cases k3 : c.k = 3
      · exact writeN_raw D T c a l cap w hD hin haT k3
      · by_cases k4 : c.k = 4
        · exact writeN_text D T c a l cap w hD hin haT k4
        · exact writeN_other D T c a l cap w hD hin haT (by simpa using k1) (by simpa using k2) (by simpa using k3) (by simpa using k4)

/-- A zero Reader, the document's beside it. -/
theorem zeroReader (w : World) : RdAt (w.alloc (.cells #[.int .i64 0, .int .i64 0, .slice none 0 0, .int .i64 0] 58)) w.heap.size [w.heap.size] [] ⟨0, 0, 0⟩ :=
  ⟨none, 0, ⟨Blk.new w _ 58, Sl.nil _ _ _, by simp, by simp, by simp [blks, Value.ownBlock]⟩, rfl⟩

set_option maxHeartbeats 8000000 in
set_option maxRecDepth 100000 in
theorem codeNothing_walk (a : Option Addr) (len cap : Nat) (cs : List Cl) (w : World) (hx : InCalls w a len cap cs) :
    Calls Try.prog 8 #[.slice a len cap] w fun e w' => e = .returned (.bool true) ∧ Keep [] w w' := by
  have hlong := long_any a len cap cs w hx
  cases hb : longB cs with
  | true =>
    rw [hb] at hlong
    go_enter Try.func8, Try.ntmps8
    go_wp2_with (first | (go_at_call 19; refine hlong.mono ?_; rintro e w1 ⟨rfl, hw⟩; have hw' := hw.symm; subst hw') | fail)
    go_returns
    exact ⟨rfl, Keep.refl _ _⟩
  | false =>
    rw [hb] at hlong
    have hcl : len ≤ 200 ∧ total cs ≤ 200000 := by
      have := hx.hlen
      simp [longB] at hb; omega
    obtain ⟨hlen2, htot⟩ := hcl
    clear hb
    obtain ⟨P, hP⟩ : ∃ P, w.heap.size = P := ⟨_, rfl⟩
    obtain ⟨w0, hw0⟩ : ∃ w0, w.alloc (.cells #[.int .i64 0, .int .i64 0, .slice none 0 0, .int .i64 0] 58) = w0 := ⟨_, rfl⟩
    have hR0 : RdAt w0 P [P] [] ⟨0, 0, 0⟩ := by rw [← hw0, ← hP]; exact zeroReader w
    have k0 : Keep [] w w0 := by rw [← hw0]; exact (Keep.refl _ _).alloc _
    have hPlt := hR0.lt P hR0.self
    obtain ⟨X, hX⟩ : ∃ X, w0.heap.size = X := ⟨_, rfl⟩
    obtain ⟨w1, hw1⟩ : ∃ w1, w0.alloc (.cells #[.slice none 0 0, .int .i64 0, .int .i64 0, .int .i64 0] 53) = w1 := ⟨_, rfl⟩
    have hX1 : RefAt w1 X none 0 [] ⟨0, 0, 0⟩ := by rw [← hw1]; exact RefAt.new (nilIn w0) X hX.symm
    have k1 : Keep [] w0 w1 := by rw [← hw1]; exact (Keep.refl _ _).alloc _
    have hXlt := hX1.blk.lt
    obtain ⟨D, hD⟩ : ∃ D, w1.heap.size = D := ⟨_, rfl⟩
    obtain ⟨w2, hw2⟩ : ∃ w2, w1.alloc (.cells #[.slice none 0 0] 26) = w2 := ⟨_, rfl⟩
    have hD2 : DkAt w2 D [D, D] := by rw [← hw2, ← hD]; exact DkAt.new w1
    have k2 : Keep [] w1 w2 := by rw [← hw2]; exact (Keep.refl _ _).alloc _
    have kA : Keep [] w w2 := (k0.trans' k1).trans' k2
    have hbe : Beside w2 P [P] X none 0 [] ⟨0, 0, 0⟩ := ⟨(hR0.keep k1 (by simp)).keep k2 (by simp), hX1.keep k2 (by simp) (by simp), by simp; omega, fun h => absurd rfl h⟩
    have n1 : w.heap.size ≤ P := by omega
    have n2 : w.heap.size ≤ X := by have := k0.size; omega
    have sD : Since w [D, D] := by intro b hb; simp at hb; have := k0.size; have := k1.size; omega
    have nP : P ∉ [D, D] := by simp; omega
    have nX : X ∉ [D, D] := by simp; omega
    go_enter Try.func8, Try.ntmps8
    go_upto_region 8 with (first | (go_at_call 19; refine hlong.mono ?_; rintro e w9 ⟨rfl, hw⟩; have hw' := hw.symm; subst hw') | fail)
    clear hw0 hw1 hw2 hP hX hD hR0 hX1 k0 k1 k2 hPlt hXlt hlong hw
    go_wp2_with fail
    go_loopw [8] (fun v8 wr => ∃ i T s, i ≤ len ∧ v8 = .int .i64 (i : Nat) ∧ DkAt wr D T ∧ Beside wr P [P] X none 0 [] s ∧ Since w T ∧ P ∉ T ∧ X ∉ T ∧ Keep [] w wr) (fun v8 _ => len - (intOf v8).toNat)
    case atStart => exact ⟨0, [D, D], _, by omega, rfl, hD2, hbe, sD, nP, nX, kA⟩
    case round =>
      clear hD2 hbe sD nP nX kA
      obtain ⟨i, T, s, hi, rfl, hDk, hbe, hT, nP, nX, hkw⟩ := hrel
      by_cases hlt : i < len
      · obtain ⟨c, b, off, ai, li, ci, hc, rfl, d0, d1, d2, d3, ⟨hwk, hwv, hwu⟩, hin⟩ := hx.at hlt
        have e0 := hkw.cell d0 (by simp)
        have e1 := hkw.cell d1 (by simp)
        have e2 := hkw.cell d2 (by simp)
        have e3 := hkw.cell d3 (by simp)
        clear hc
        go_upto_region 12 with (first
          | (refine wpList_store_last rfl 46 (.tmp 9) (.tmp 32) rfl _ _ (clA c ai li ci) rfl (by simp) rfl size46 rfl rfl ?_)
          | fail)
        clear e0 e1 e2 e3 d0 d1 d2 d3
        obtain ⟨B, hB⟩ : ∃ B, wr.heap.size = B := ⟨_, rfl⟩
        have hC := Blk.new wr (clA c ai li ci) 46
        have kC : Keep [] wr (wr.alloc (.cells (clA c ai li ci) 46)) := (Keep.refl _ _).alloc _
        rw [hB] at hC ⊢
        have hBT : B ∉ T := fun h => by have := hDk.lt B h; omega
        have hBP : B ≠ P := by have := hbe.mine.lt P hbe.mine.self; omega
        have hBX : B ≠ X := by have := hbe.ref.blk.lt; omega
        clear hB
        generalize wr.alloc (.cells (clA c ai li ci) 46) = w2 at hC kC ⊢
        have kA2 := hkw.trans' kC
        have hb2 := hbe.keep kC (by simp) (by simp) (by simp)
        have hD2 := hDk.keep kC (by simp)
        clear kC hbe hkw hDk
        have c0 : w2.cell? ⟨B, 0, none⟩ = some (.int .i64 c.k) := hC.cell (i := 0) rfl
        have c1 : w2.cell? ⟨B, 1, none⟩ = some (.int .i64 c.v) := hC.cell (i := 1) rfl
        have c2 : w2.cell? ⟨B, 2, none⟩ = some (.int .i64 c.u) := hC.cell (i := 2) rfl
        have c3 : w2.cell? ⟨B, 3, none⟩ = some (.slice ai li ci) := hC.cell (i := 3) rfl
        have C1 := writeN_any D T c ai li ci w2 hD2 (hin.keep kA2 (by simp)) (hin.since hT)
        unfold Laid at C1
        have C1 := Lib.hid C1
        go_upto_region 13 with (first
          | (go_at_call 21; refine C1.out.mono ?_; rintro e w3 ⟨rfl, T3, hD3, hf3, hk3⟩)
          | fail)
        have kA3 := hT.keep kA2 hk3
        have hb3 := hb2.keep hk3 (by simpa using nP) nX (fun h => absurd rfl h)
        have hC3 := hC.keep hk3 hBT
        have sT3 : Since w T3 := hT.fr hf3 kA2.size
        have nP3 : P ∉ T3 := fun h => by
          rcases hf3 P h with h1 | h1
          · exact nP h1
          · have := hb2.mine.lt P hb2.mine.self; omega
        have nX3 : X ∉ T3 := fun h => by
          rcases hf3 X h with h1 | h1
          · exact nX h1
          · have := hb2.ref.blk.lt; omega
        clear c0 c1 c2 c3 C1 hk3 hf3 hb2 hD2 hC
        have c0 : w3.cell? ⟨B, 0, none⟩ = some (.int .i64 c.k) := hC3.cell (i := 0) rfl
        have c1 : w3.cell? ⟨B, 1, none⟩ = some (.int .i64 c.v) := hC3.cell (i := 1) rfl
        have c2 : w3.cell? ⟨B, 2, none⟩ = some (.int .i64 c.u) := hC3.cell (i := 2) rfl
        have c3 : w3.cell? ⟨B, 3, none⟩ = some (.slice ai li ci) := hC3.cell (i := 3) rfl
        have C5 := readLaw_any P X [P] none 0 [] s c ai li ci w3 hb3 hwv (by simp)
        unfold Reads2 at C5
        have C5 := Lib.hid C5
        go_wp2_with (first
          | (go_at_call 25; refine (data_nil _).mono ?_; rintro e w9 ⟨rfl, hw⟩; have hw' := hw.symm; subst hw')
          | (go_at_call 26; refine (num'_any _ _).mono ?_; rintro e w9 ⟨rfl, hw⟩; have hw' := hw.symm; subst hw')
          | (go_at_call 27; refine (rerr_nil _).mono ?_; rintro e w9 ⟨rfl, hw⟩; have hw' := hw.symm; subst hw')
          | (go_at_call 28; refine (rnumber_nil _).mono ?_; rintro e w9 ⟨rfl, hw⟩; have hw' := hw.symm; subst hw')
          | (go_at_call 29; refine (rfixed_nil _ _).mono ?_; rintro e w9 ⟨rfl, hw⟩; have hw' := hw.symm; subst hw')
          | (go_at_call 30; refine (rraw_nil _ _).mono ?_; rintro e w9 ⟨rfl, hw⟩; have hw' := hw.symm; subst hw')
          | (go_at_call 31; refine (rtext_nil _ _).mono ?_; rintro e w9 ⟨rfl, hw⟩; have hw' := hw.symm; subst hw')
          | (go_at_call 32; refine (rleft_nil _).mono ?_; rintro e w9 ⟨rfl, hw⟩; have hw' := hw.symm; subst hw')
          | (go_at_call 24; refine C5.out.mono ?_; rintro e w7 ⟨rfl, s7, hb7, hk7⟩)
          | fail)
        refine ⟨⟨i + 1, T3, s7, by omega, by go_num, hD3.keep hk7 (fun b hb h => ?_), hb7, sT3, nP3, nX3, kA3.trans hk7 (fun b hb => ?_)⟩, by simp [intOf]; omega⟩
        · simp only [List.mem_cons, List.not_mem_nil, or_false] at h
          rcases h with rfl | rfl
          · exact nP3 hb
          · exact nX3 hb
        · simp only [List.mem_cons, List.not_mem_nil, or_false] at hb
          rcases hb with rfl | rfl
          · exact Or.inr n1
          · exact Or.inr n2
      · go_wp2_with (first
          | (go_at_call 18; refine (known_any _).mono ?_; rintro e w9 ⟨rfl, hk9⟩)
          | fail)
        go_returns
        exact ⟨rfl, hkw.trans' hk9⟩
end Go.Proofs.Ytkhplfgehcljmaa

/- write: one call of the program's writer. -/
import Derived.Test.YtkhplfgehcljmaaS
set_option linter.unusedVariables false
set_option linter.unusedSimpArgs false
namespace Go.Proofs.Ytkhplfgehcljmaa
open Go.RowKit

/-- Two lists of blocks share none. -/
def Dj (S T : List Nat) : Prop := ∀ b ∈ S, b ∉ T
theorem Dj.symm {S T : List Nat} (h : Dj S T) : Dj T S := fun b hb hS => h b hS hb
theorem Dj.fr {S S' T : List Nat} {w : World} (h : Dj S T) (hf : Fr w S S') (hT : ∀ b ∈ T, b < w.heap.size) : Dj S' T := fun b hb hbT => by
  rcases hf b hb with h1 | h1
  · exact h b h1 hbT
  · have := hT b hbT; omega
theorem Keep.left {S T : List Nat} {w w' : World} (k : Keep S w w') : Keep (S ++ T) w w' := k.mono (fun b hb => Or.inl (by simp [hb]))
theorem Keep.right {S T : List Nat} {w w' : World} (k : Keep T w w') : Keep (S ++ T) w w' := k.mono (fun b hb => Or.inl (by simp [hb]))

/-- What a call leaves: the writer, the desk. -/
def Wrote (w : World) (P : Nat) (S : List Nat) (D : Nat) (T : List Nat) (bad : Bool) (d : List UInt8) (e : Ending) (w' : World) : Prop :=
  e = .returned (.bool true) ∧ ∃ S' T', WrAt w' P S' bad d ∧ DkAt w' D T' ∧ Fr w S S' ∧ Fr w T T' ∧ Dj S' T' ∧ Keep (S ++ T) w w'

set_option maxHeartbeats 4000000 in
set_option maxRecDepth 100000 in
theorem write_num (P : Nat) (S : List Nat) (D : Nat) (T : List Nat) (bad : Bool) (d : List UInt8) (c : Cl) (a : Option Addr) (l cap : Nat) (w : World) (hW : WrAt w P S bad d) (hD : DkAt w D T) (hin : InBytes w a l cap c.d) (hdj : Dj S T)
    (haS : c.d ≠ [] → ablk a ∉ S) (haT : c.d ≠ [] → ablk a ∉ T) (hv : (Lit.int .i64 c.v).wf = true) (hk : c.k = 1) (hsum : d.length + l + 10 ≤ 140737488355328) :
    Calls Try.prog 21 #[.pointer (some ⟨P, 0, none⟩), clV c a l cap, .pointer (some ⟨D, 0, none⟩)] w (Wrote w P S D T (bad || !isNum c.v) (putD (bad || !isNum c.v) d (numB c.v.toNat))) := by
  obtain ⟨ck, cv, cu, cd⟩ := c
  obtain rfl : ck = 1 := hk
  simp only [clV] at hin haS haT hv ⊢
  have HL := Lib.hid hin.hlen
  obtain ⟨B, hBB⟩ : ∃ B, w.heap.size = B := ⟨_, rfl⟩
  obtain ⟨w1, hw1⟩ : ∃ w1, w.alloc (.cells #[.int .i64 1, .int .i64 cv, .int .i64 cu, .slice a l cap] 46) = w1 := ⟨_, rfl⟩
  have hC : Blk w1 B #[.int .i64 1, .int .i64 cv, .int .i64 cu, .slice a l cap] 46 := by rw [← hw1, ← hBB]; exact Blk.new w _ 46
  have k1 : Keep [] w w1 := by rw [← hw1]; exact (Keep.refl _ _).alloc _
  have hBS : B ∉ S := fun h => by have := hW.lt B h; omega
  have hBT : B ∉ T := fun h => by have := hD.lt B h; omega
  have hW1 := hW.keep k1 (by simp)
  have hD1 := hD.keep k1 (by simp)
  have hin1 := hin.keep k1 (by simp)
  have hc := Lib.hid (number_any P S bad d cv w1 hW1 hv (by omega))
  go_enter Try.func21, Try.ntmps21
  go_upto_region 1 with fail
  clear hw1 hBB
  have d0 : w1.cell? ⟨B, 0, none⟩ = some (.int .i64 1) := hC.cell (i := 0) rfl
  have d1 : w1.cell? ⟨B, 1, none⟩ = some (.int .i64 cv) := hC.cell (i := 1) rfl
  have d2 : w1.cell? ⟨B, 2, none⟩ = some (.int .i64 cu) := hC.cell (i := 2) rfl
  have d3 : w1.cell? ⟨B, 3, none⟩ = some (.slice a l cap) := hC.cell (i := 3) rfl
  go_upto_region 11 with (first
    | (go_at_call 34; refine hc.out.mono ?_; rintro e w2 ⟨rfl, ⟨S2, hW2, hf2⟩, hk2⟩)
    | fail)
  have hC2 := hC.keep hk2 hBS
  have hD2 := hD1.keep hk2 (fun b hb => hdj.symm b hb)
  clear d0 d1 d2 d3
  have d0 : w2.cell? ⟨B, 0, none⟩ = some (.int .i64 1) := hC2.cell (i := 0) rfl
  go_wp2_with (first
    | (go_at_call 15; refine (layD_any D T none 0 0 [] w2 hD2 (nilIn _) (fun h => absurd rfl h)).mono ?_; rintro e w9 ⟨g9, c9, rfl, hd9, -, -, -, hk9, hf9, -⟩)
    | fail)
  go_returns
  refine ⟨rfl, S2, [D, g9], hW2.keep hk9 (fun b hb => (hdj.fr hf2 hD1.lt) b hb), hd9.1, hf2.le k1.size, hf9.le (Nat.le_trans k1.size hk2.size), (Dj.fr ((hdj.fr hf2 hD1.lt).symm) hf9 hW2.lt).symm, ?_⟩
  exact ((k1.mono (by simp)).trans (hk2.left (T := T)) (fun b hb => Or.inl hb)).trans (hk9.right (S := S)) (fun b hb => Or.inl hb)

set_option maxHeartbeats 4000000 in
set_option maxRecDepth 100000 in
theorem write_fix (P : Nat) (S : List Nat) (D : Nat) (T : List Nat) (bad : Bool) (d : List UInt8) (c : Cl) (a : Option Addr) (l cap : Nat) (w : World) (hW : WrAt w P S bad d) (hD : DkAt w D T) (hin : InBytes w a l cap c.d) (hdj : Dj S T)
    (haS : c.d ≠ [] → ablk a ∉ S) (haT : c.d ≠ [] → ablk a ∉ T) (hv : (Lit.int .i64 c.v).wf = true) (hk : c.k = 2) (hsum : d.length + l + 10 ≤ 140737488355328) :
    Calls Try.prog 21 #[.pointer (some ⟨P, 0, none⟩), clV c a l cap, .pointer (some ⟨D, 0, none⟩)] w (Wrote w P S D T (bad || !isFix c.v c.u) (putD (bad || !isFix c.v c.u) d (fixB c.v.toNat c.u.toNat))) := by
  obtain ⟨ck, cv, cu, cd⟩ := c
  obtain rfl : ck = 2 := hk
  simp only [clV] at hin haS haT hv ⊢
  have HL := Lib.hid hin.hlen
  obtain ⟨B, hBB⟩ : ∃ B, w.heap.size = B := ⟨_, rfl⟩
  obtain ⟨w1, hw1⟩ : ∃ w1, w.alloc (.cells #[.int .i64 2, .int .i64 cv, .int .i64 cu, .slice a l cap] 46) = w1 := ⟨_, rfl⟩
  have hC : Blk w1 B #[.int .i64 2, .int .i64 cv, .int .i64 cu, .slice a l cap] 46 := by rw [← hw1, ← hBB]; exact Blk.new w _ 46
  have k1 : Keep [] w w1 := by rw [← hw1]; exact (Keep.refl _ _).alloc _
  have hBS : B ∉ S := fun h => by have := hW.lt B h; omega
  have hBT : B ∉ T := fun h => by have := hD.lt B h; omega
  have hW1 := hW.keep k1 (by simp)
  have hD1 := hD.keep k1 (by simp)
  have hin1 := hin.keep k1 (by simp)
  have hc := Lib.hid (fixed_any P S bad d cv cu w1 hW1 hv (by omega))
  go_enter Try.func21, Try.ntmps21
  go_upto_region 1 with fail
  clear hw1 hBB
  have d0 : w1.cell? ⟨B, 0, none⟩ = some (.int .i64 2) := hC.cell (i := 0) rfl
  have d1 : w1.cell? ⟨B, 1, none⟩ = some (.int .i64 cv) := hC.cell (i := 1) rfl
  have d2 : w1.cell? ⟨B, 2, none⟩ = some (.int .i64 cu) := hC.cell (i := 2) rfl
  have d3 : w1.cell? ⟨B, 3, none⟩ = some (.slice a l cap) := hC.cell (i := 3) rfl
  go_upto_region 11 with (first
    | (go_at_call 36; refine hc.out.mono ?_; rintro e w2 ⟨rfl, ⟨S2, hW2, hf2⟩, hk2⟩)
    | fail)
  have hC2 := hC.keep hk2 hBS
  have hD2 := hD1.keep hk2 (fun b hb => hdj.symm b hb)
  clear d0 d1 d2 d3
  have d0 : w2.cell? ⟨B, 0, none⟩ = some (.int .i64 2) := hC2.cell (i := 0) rfl
  go_wp2_with (first
    | (go_at_call 15; refine (layD_any D T none 0 0 [] w2 hD2 (nilIn _) (fun h => absurd rfl h)).mono ?_; rintro e w9 ⟨g9, c9, rfl, hd9, -, -, -, hk9, hf9, -⟩)
    | fail)
  go_returns
  refine ⟨rfl, S2, [D, g9], hW2.keep hk9 (fun b hb => (hdj.fr hf2 hD1.lt) b hb), hd9.1, hf2.le k1.size, hf9.le (Nat.le_trans k1.size hk2.size), (Dj.fr ((hdj.fr hf2 hD1.lt).symm) hf9 hW2.lt).symm, ?_⟩
  exact ((k1.mono (by simp)).trans (hk2.left (T := T)) (fun b hb => Or.inl hb)).trans (hk9.right (S := S)) (fun b hb => Or.inl hb)

set_option maxHeartbeats 4000000 in
set_option maxRecDepth 100000 in
theorem write_raw (P : Nat) (S : List Nat) (D : Nat) (T : List Nat) (bad : Bool) (d : List UInt8) (c : Cl) (a : Option Addr) (l cap : Nat) (w : World) (hW : WrAt w P S bad d) (hD : DkAt w D T) (hin : InBytes w a l cap c.d) (hdj : Dj S T)
    (haS : c.d ≠ [] → ablk a ∉ S) (haT : c.d ≠ [] → ablk a ∉ T) (hv : (Lit.int .i64 c.v).wf = true) (hk : c.k = 3) (hsum : d.length + l + 10 ≤ 140737488355328) :
    Calls Try.prog 21 #[.pointer (some ⟨P, 0, none⟩), clV c a l cap, .pointer (some ⟨D, 0, none⟩)] w (Wrote w P S D T bad (putD bad d c.d)) := by
  obtain ⟨ck, cv, cu, cd⟩ := c
  obtain rfl : ck = 3 := hk
  simp only [clV] at hin haS haT hv ⊢
  have HL := Lib.hid hin.hlen
  obtain ⟨B, hBB⟩ : ∃ B, w.heap.size = B := ⟨_, rfl⟩
  obtain ⟨w1, hw1⟩ : ∃ w1, w.alloc (.cells #[.int .i64 3, .int .i64 cv, .int .i64 cu, .slice a l cap] 46) = w1 := ⟨_, rfl⟩
  have hC : Blk w1 B #[.int .i64 3, .int .i64 cv, .int .i64 cu, .slice a l cap] 46 := by rw [← hw1, ← hBB]; exact Blk.new w _ 46
  have k1 : Keep [] w w1 := by rw [← hw1]; exact (Keep.refl _ _).alloc _
  have hBS : B ∉ S := fun h => by have := hW.lt B h; omega
  have hBT : B ∉ T := fun h => by have := hD.lt B h; omega
  have hW1 := hW.keep k1 (by simp)
  have hD1 := hD.keep k1 (by simp)
  have hin1 := hin.keep k1 (by simp)
  have hc := Lib.hid (layD_any D T a l cap cd w1 hD1 hin1 haT)
  go_enter Try.func21, Try.ntmps21
  go_upto_region 1 with fail
  clear hw1 hBB
  have d0 : w1.cell? ⟨B, 0, none⟩ = some (.int .i64 3) := hC.cell (i := 0) rfl
  have d1 : w1.cell? ⟨B, 1, none⟩ = some (.int .i64 cv) := hC.cell (i := 1) rfl
  have d2 : w1.cell? ⟨B, 2, none⟩ = some (.int .i64 cu) := hC.cell (i := 2) rfl
  have d3 : w1.cell? ⟨B, 3, none⟩ = some (.slice a l cap) := hC.cell (i := 3) rfl
  go_upto_region 11 with (first
    | (go_at_call 15; refine hc.out.mono ?_; rintro e w2 ⟨g2, c2, rfl, hd2, hc5, hcm, hr2, hk2, hf2, hgD⟩
       have hW2 := hW1.keep hk2 hdj
       have hdj2 : Dj [D, g2] S := Dj.fr hdj.symm hf2 hW1.lt
       have hgS : g2 ∉ S := hdj2 g2 (by simp)
       have hgP : ablk (some ⟨g2, 0, none⟩) ≠ P := fun e => hgS (by have := hW.self; rw [← e] at this; exact this)
       have hg2lt : ablk (some ⟨g2, 0, none⟩) < w2.heap.size := hd2.1.lt g2 (by simp)
       have hc3 := Lib.hid (raw_any P S bad d cd (some ⟨g2, 0, none⟩) l c2 w2 hW2 HL.out (by simp) hr2 (fun _ => hgP) (by omega)))
    | (go_at_call 37; refine hc3.out.mono ?_; rintro e w3 ⟨rfl, ⟨S3, hW3, hf3⟩, hk3⟩)
    | fail)
  have hBd : B ∉ [D, g2] := fun h => by
    rcases hf2 B h with h1 | h1
    · exact hBT h1
    · have := hC.lt; omega
  have hC3 := (hC.keep hk2 hBT).keep hk3 hBS
  have hD3 := hd2.1.keep hk3 (fun b hb => hdj2 b hb)
  have hde3 : DeskAt w3 D g2 c2 (laid cd c2) := by
    refine ⟨hd2.2.len, Nat.lt_of_lt_of_le hd2.2.lt hk3.size, ?_⟩
    rcases hd2.2.at_ with ⟨q1, q2, q3⟩ | ⟨q1, q2, q3⟩
    · exact absurd q3 hgD
    · exact Or.inr ⟨q1, q2.keep hk3 (hdj2 D (by simp)), q3.keep hk3 (hdj2 g2 (by simp))⟩
  have hin3 : Rd w3 a (bs cd) := ((hin1.keep hk2 haT).keep hk3 haS).rd
  have hlies := lies_any D g2 c2 a cap cd w3 hcm (by rw [HL.out]; omega) (by rw [HL.out]; omega) hde3 hin3
  rw [HL.out] at hlies
  have HLI := Lib.hid hlies
  clear d0 d1 d2 d3 hlies
  have d0 : w3.cell? ⟨B, 0, none⟩ = some (.int .i64 3) := hC3.cell (i := 0) rfl
  have d3 : w3.cell? ⟨B, 3, none⟩ = some (.slice a l cap) := hC3.cell (i := 3) rfl
  go_wp2_with (first
    | (go_at_call 17; refine HLI.out.mono ?_; rintro e w4 ⟨rfl, m, rfl⟩; have hD4 : DkAt (w3.drewN m) D [D, g2] := hD3.keep ((Keep.refl [] _).drewN) (by simp))
    | (go_at_call 15; refine (layD_any D [D, g2] none 0 0 [] _ hD4 (nilIn _) (fun h => absurd rfl h)).mono ?_; rintro e w9 ⟨g9, c9, rfl, hd9, -, -, -, hk9, hf9, -⟩)
    | fail)
  go_returns
  have hdj3 : Dj S3 [D, g2] := hdj2.symm.fr hf3 hd2.1.lt
  have kd : Keep [] w3 (w3.drewN m) := (Keep.refl _ _).drewN
  refine ⟨rfl, S3, [D, g9], (hW3.keep kd (by simp)).keep hk9 (fun b hb => hdj3 b hb), hd9.1, hf3.le (Nat.le_trans k1.size hk2.size), ?_, (Dj.fr hdj3.symm hf9 (fun b hb => hW3.lt b hb)).symm, ?_⟩
  · refine Fr.trans (hf2.le k1.size) hf9 ?_
    have := k1.size; have := hk2.size; have := hk3.size; have := kd.size; omega
  · have kA : Keep (S ++ T) w w2 := (k1.mono (by simp)).trans (hk2.right (S := S)) (fun b hb => Or.inl hb)
    have kB : Keep (S ++ T) w w3 := kA.trans (hk3.left (T := T)) (fun b hb => Or.inl hb)
    have kC : Keep (S ++ T) w (w3.drewN m) := kB.drewN
    refine kC.trans hk9 (fun b hb => ?_)
    rcases hf2 b hb with h1 | h1
    · exact Or.inl (by simp [h1])
    · exact Or.inr (by have := k1.size; omega)

set_option maxHeartbeats 4000000 in
set_option maxRecDepth 100000 in
theorem write_text (P : Nat) (S : List Nat) (D : Nat) (T : List Nat) (bad : Bool) (d : List UInt8) (c : Cl) (a : Option Addr) (l cap : Nat) (w : World) (hW : WrAt w P S bad d) (hD : DkAt w D T) (hin : InBytes w a l cap c.d) (hdj : Dj S T)
    (haS : c.d ≠ [] → ablk a ∉ S) (haT : c.d ≠ [] → ablk a ∉ T) (hv : (Lit.int .i64 c.v).wf = true) (hk : c.k = 4) (hl4 : l ≤ 2147483647) (hsum : d.length + l + 10 ≤ 140737488355328) :
    Calls Try.prog 21 #[.pointer (some ⟨P, 0, none⟩), clV c a l cap, .pointer (some ⟨D, 0, none⟩)] w (Wrote w P S D T bad (putD bad d (textB c.d))) := by
  obtain ⟨ck, cv, cu, cd⟩ := c
  obtain rfl : ck = 4 := hk
  simp only [clV] at hin haS haT hv ⊢
  have HL := Lib.hid hin.hlen
  obtain ⟨B, hBB⟩ : ∃ B, w.heap.size = B := ⟨_, rfl⟩
  obtain ⟨w1, hw1⟩ : ∃ w1, w.alloc (.cells #[.int .i64 4, .int .i64 cv, .int .i64 cu, .slice a l cap] 46) = w1 := ⟨_, rfl⟩
  have hC : Blk w1 B #[.int .i64 4, .int .i64 cv, .int .i64 cu, .slice a l cap] 46 := by rw [← hw1, ← hBB]; exact Blk.new w _ 46
  have k1 : Keep [] w w1 := by rw [← hw1]; exact (Keep.refl _ _).alloc _
  have hBS : B ∉ S := fun h => by have := hW.lt B h; omega
  have hBT : B ∉ T := fun h => by have := hD.lt B h; omega
  have hW1 := hW.keep k1 (by simp)
  have hD1 := hD.keep k1 (by simp)
  have hin1 := hin.keep k1 (by simp)
  have hc := Lib.hid (layD_any D T a l cap cd w1 hD1 hin1 haT)
  go_enter Try.func21, Try.ntmps21
  go_upto_region 1 with fail
  clear hw1 hBB
  have d0 : w1.cell? ⟨B, 0, none⟩ = some (.int .i64 4) := hC.cell (i := 0) rfl
  have d1 : w1.cell? ⟨B, 1, none⟩ = some (.int .i64 cv) := hC.cell (i := 1) rfl
  have d2 : w1.cell? ⟨B, 2, none⟩ = some (.int .i64 cu) := hC.cell (i := 2) rfl
  have d3 : w1.cell? ⟨B, 3, none⟩ = some (.slice a l cap) := hC.cell (i := 3) rfl
  go_upto_region 11 with (first
    | (go_at_call 15; refine hc.out.mono ?_; rintro e w2 ⟨g2, c2, rfl, hd2, hc5, hcm, hr2, hk2, hf2, hgD⟩
       have hW2 := hW1.keep hk2 hdj
       have hdj2 : Dj [D, g2] S := Dj.fr hdj.symm hf2 hW1.lt
       have hgS : g2 ∉ S := hdj2 g2 (by simp)
       have hgP : ablk (some ⟨g2, 0, none⟩) ≠ P := fun e => hgS (by have := hW.self; rw [← e] at this; exact this)
       have hg2lt : ablk (some ⟨g2, 0, none⟩) < w2.heap.size := hd2.1.lt g2 (by simp)
       have hc3 := Lib.hid (text_any P S bad d cd (some ⟨g2, 0, none⟩) l c2 w2 hW2 HL.out (by simp) hr2 (fun _ => hgS) (by omega) hl4 (fun _ => hg2lt)))
    | (go_at_call 38; refine hc3.out.mono ?_; rintro e w3 ⟨rfl, ⟨S3, hW3, hf3⟩, hk3⟩)
    | fail)
  have hBd : B ∉ [D, g2] := fun h => by
    rcases hf2 B h with h1 | h1
    · exact hBT h1
    · have := hC.lt; omega
  have hC3 := (hC.keep hk2 hBT).keep hk3 hBS
  have hD3 := hd2.1.keep hk3 (fun b hb => hdj2 b hb)
  have hde3 : DeskAt w3 D g2 c2 (laid cd c2) := by
    refine ⟨hd2.2.len, Nat.lt_of_lt_of_le hd2.2.lt hk3.size, ?_⟩
    rcases hd2.2.at_ with ⟨q1, q2, q3⟩ | ⟨q1, q2, q3⟩
    · exact absurd q3 hgD
    · exact Or.inr ⟨q1, q2.keep hk3 (hdj2 D (by simp)), q3.keep hk3 (hdj2 g2 (by simp))⟩
  have hin3 : Rd w3 a (bs cd) := ((hin1.keep hk2 haT).keep hk3 haS).rd
  have hlies := lies_any D g2 c2 a cap cd w3 hcm (by rw [HL.out]; omega) (by rw [HL.out]; omega) hde3 hin3
  rw [HL.out] at hlies
  have HLI := Lib.hid hlies
  clear d0 d1 d2 d3 hlies
  have d0 : w3.cell? ⟨B, 0, none⟩ = some (.int .i64 4) := hC3.cell (i := 0) rfl
  have d3 : w3.cell? ⟨B, 3, none⟩ = some (.slice a l cap) := hC3.cell (i := 3) rfl
  go_wp2_with (first
    | (go_at_call 17; refine HLI.out.mono ?_; rintro e w4 ⟨rfl, m, rfl⟩; have hD4 : DkAt (w3.drewN m) D [D, g2] := hD3.keep ((Keep.refl [] _).drewN) (by simp))
    | (go_at_call 15; refine (layD_any D [D, g2] none 0 0 [] _ hD4 (nilIn _) (fun h => absurd rfl h)).mono ?_; rintro e w9 ⟨g9, c9, rfl, hd9, -, -, -, hk9, hf9, -⟩)
    | fail)
  go_returns
  have hdj3 : Dj S3 [D, g2] := hdj2.symm.fr hf3 hd2.1.lt
  have kd : Keep [] w3 (w3.drewN m) := (Keep.refl _ _).drewN
  refine ⟨rfl, S3, [D, g9], (hW3.keep kd (by simp)).keep hk9 (fun b hb => hdj3 b hb), hd9.1, hf3.le (Nat.le_trans k1.size hk2.size), ?_, (Dj.fr hdj3.symm hf9 (fun b hb => hW3.lt b hb)).symm, ?_⟩
  · refine Fr.trans (hf2.le k1.size) hf9 ?_
    have := k1.size; have := hk2.size; have := hk3.size; have := kd.size; omega
  · have kA : Keep (S ++ T) w w2 := (k1.mono (by simp)).trans (hk2.right (S := S)) (fun b hb => Or.inl hb)
    have kB : Keep (S ++ T) w w3 := kA.trans (hk3.left (T := T)) (fun b hb => Or.inl hb)
    have kC : Keep (S ++ T) w (w3.drewN m) := kB.drewN
    refine kC.trans hk9 (fun b hb => ?_)
    rcases hf2 b hb with h1 | h1
    · exact Or.inl (by simp [h1])
    · exact Or.inr (by have := k1.size; omega)

set_option maxHeartbeats 4000000 in
set_option maxRecDepth 100000 in
theorem write_other (P : Nat) (S : List Nat) (D : Nat) (T : List Nat) (bad : Bool) (d : List UInt8) (c : Cl) (a : Option Addr) (l cap : Nat) (w : World) (hW : WrAt w P S bad d) (hD : DkAt w D T) (hin : InBytes w a l cap c.d) (hdj : Dj S T)
    (haS : c.d ≠ [] → ablk a ∉ S) (haT : c.d ≠ [] → ablk a ∉ T) (hv : (Lit.int .i64 c.v).wf = true) (hk1 : (c.k == 1) = false) (hk2 : (c.k == 2) = false) (hk3 : (c.k == 3) = false) (hk4 : (c.k == 4) = false) (hsum : d.length + l + 10 ≤ 140737488355328) :
    Calls Try.prog 21 #[.pointer (some ⟨P, 0, none⟩), clV c a l cap, .pointer (some ⟨D, 0, none⟩)] w (Wrote w P S D T bad d) := by
  obtain ⟨ck, cv, cu, cd⟩ := c
  simp only [clV] at hin haS haT hv hk1 hk2 hk3 hk4 ⊢
  have HL := Lib.hid hin.hlen
  obtain ⟨B, hBB⟩ : ∃ B, w.heap.size = B := ⟨_, rfl⟩
  obtain ⟨w1, hw1⟩ : ∃ w1, w.alloc (.cells #[.int .i64 ck, .int .i64 cv, .int .i64 cu, .slice a l cap] 46) = w1 := ⟨_, rfl⟩
  have hC : Blk w1 B #[.int .i64 ck, .int .i64 cv, .int .i64 cu, .slice a l cap] 46 := by rw [← hw1, ← hBB]; exact Blk.new w _ 46
  have k1 : Keep [] w w1 := by rw [← hw1]; exact (Keep.refl _ _).alloc _
  have hBS : B ∉ S := fun h => by have := hW.lt B h; omega
  have hBT : B ∉ T := fun h => by have := hD.lt B h; omega
  have hW1 := hW.keep k1 (by simp)
  have hD1 := hD.keep k1 (by simp)
  have hin1 := hin.keep k1 (by simp)
  go_enter Try.func21, Try.ntmps21
  go_upto_region 1 with fail
  clear hw1 hBB
  have d0 : w1.cell? ⟨B, 0, none⟩ = some (.int .i64 ck) := hC.cell (i := 0) rfl
  have d1 : w1.cell? ⟨B, 1, none⟩ = some (.int .i64 cv) := hC.cell (i := 1) rfl
  have d2 : w1.cell? ⟨B, 2, none⟩ = some (.int .i64 cu) := hC.cell (i := 2) rfl
  have d3 : w1.cell? ⟨B, 3, none⟩ = some (.slice a l cap) := hC.cell (i := 3) rfl
  go_wp2_with fail
  go_returns
  exact ⟨rfl, S, T, hW1, hD1, Fr.refl _ _, Fr.refl _ _, hdj, k1.mono (by simp)⟩

/-- write: what the call writes is written. -/
theorem write_any (P : Nat) (S : List Nat) (D : Nat) (T : List Nat) (bad : Bool) (d : List UInt8) (c : Cl) (a : Option Addr) (l cap : Nat) (w : World) (hW : WrAt w P S bad d) (hD : DkAt w D T) (hin : InBytes w a l cap c.d) (hdj : Dj S T)
    (haS : c.d ≠ [] → ablk a ∉ S) (haT : c.d ≠ [] → ablk a ∉ T) (hv : (Lit.int .i64 c.v).wf = true) (hsum : d.length + l + 10 ≤ 140737488355328) (hl4 : l ≤ 2147483647) :
    Calls Try.prog 21 #[.pointer (some ⟨P, 0, none⟩), clV c a l cap, .pointer (some ⟨D, 0, none⟩)] w (Wrote w P S D T (bad || cBad c) (putD (bad || cBad c) d (cBytes c))) := by
  by_cases k1 : c.k = 1
  · have := write_num P S D T bad d c a l cap w hW hD hin hdj haS haT hv k1 hsum
    have e1 : cBad c = !isNum c.v := by simp [cBad, k1]
    have e2 : cBytes c = numB c.v.toNat := by simp [cBytes, k1]
    rw [e1, e2]; exact this
  · by_cases k2 : c.k = 2
    · have := write_fix P S D T bad d c a l cap w hW hD hin hdj haS haT hv k2 hsum
      have e1 : cBad c = !isFix c.v c.u := by simp [cBad, k2]
      have e2 : cBytes c = fixB c.v.toNat c.u.toNat := by simp [cBytes, k2]
      rw [e1, e2]; exact this
    · have e1 : cBad c = false := by simp [cBad, k1, k2]
      rw [e1, Bool.or_false]
      by_cases k3 : c.k = 3
      · have e2 : cBytes c = c.d := by simp [cBytes, k3]
        rw [e2]; exact write_raw P S D T bad d c a l cap w hW hD hin hdj haS haT hv k3 hsum
      · by_cases k4 : c.k = 4
        · have e2 : cBytes c = textB c.d := by simp [cBytes, k4]
          rw [e2]; exact write_text P S D T bad d c a l cap w hW hD hin hdj haS haT hv k4 hl4 hsum
        · have e2 : cBytes c = [] := by simp [cBytes, k1, k2, k3, k4]
          have e3 : putD bad d [] = d := by cases bad <;> simp [putD]
          rw [e2, e3]; exact write_other P S D T bad d c a l cap w hW hD hin hdj haS haT hv (by simpa using k1) (by simpa using k2) (by simpa using k3) (by simpa using k4) hsum
end Go.Proofs.Ytkhplfgehcljmaa

/- The law's own writer: put; wrote. -/
import Derived.Test.YtkhplfgehcljmaaQ
set_option linter.unusedVariables false
set_option linter.unusedSimpArgs false
namespace Go.Proofs.Ytkhplfgehcljmaa
open Go.RowKit

/-- What a call writes, and whether it is refused. -/
def cBad (c : Cl) : Bool := if c.k = 1 then !isNum c.v else if c.k = 2 then !isFix c.v c.u else false
def cBytes (c : Cl) : List UInt8 := if c.k = 1 then numB c.v.toNat else if c.k = 2 then fixB c.v.toNat c.u.toNat else if c.k = 3 then c.d else if c.k = 4 then textB c.d else []
/-- Block X is the document's writer. -/
def WAt (w : World) (X : Nat) (S : List Nat) (bad : Bool) (d : List UInt8) : Prop :=
  ∃ v, Blk w X #[v, .bool bad] 43 ∧ Sl w 5 1 v d.length (bs d) ∧ S = X :: blks v ∧ X ∉ blks v
theorem WAt.keep {w w' : World} {P : Nat} {S T : List Nat} {bad : Bool} {d : List UInt8} (h : WAt w P S bad d) (k : Keep T w w') (hT : ∀ b ∈ S, b ∉ T) : WAt w' P S bad d := by
  obtain ⟨v, hB, hS, rfl, h2⟩ := h
  exact ⟨v, hB.keep k (hT P (by simp)), hS.keep k (fun b hb => hT b (by simp [hb])), rfl, h2⟩
theorem WAt.lt {w : World} {P : Nat} {S : List Nat} {bad : Bool} {d : List UInt8} (h : WAt w P S bad d) : ∀ b ∈ S, b < w.heap.size := by
  obtain ⟨v, hB, hS, rfl, h2⟩ := h
  intro b hb
  rcases List.mem_cons.1 hb with rfl | hb
  · exact hB.lt
  · exact hS.lt b hb
theorem WAt.self {w : World} {P : Nat} {S : List Nat} {bad : Bool} {d : List UInt8} (h : WAt w P S bad d) : P ∈ S := by
  obtain ⟨v, hB, hS, rfl, h2⟩ := h; simp

/-- A call as a value. -/
abbrev clV (c : Cl) (a : Option Addr) (l cap : Nat) : Value := .agg #[.int .i64 c.k, .int .i64 c.v, .int .i64 c.u, .slice a l cap]

/-- The last statement of 'put': the row is appended. -/
theorem WAt.onto {w w1 w2 : World} {X : Nat} {S0 : List Nat} {va va1 : Option Addr} {m vc vc1 n : Nat} {bad : Bool} {d xs : List UInt8} (k0 : Keep S0 w w1) (hB : Blk w1 X #[.slice va m vc, .bool bad] 43) (hm : d.length = m) (hX : X ∉ blks (.slice va m vc))
    (hS0 : ∀ b ∈ X :: blks (.slice va m vc), b ∈ S0) (hw1 : ∀ b ∈ X :: blks (.slice va m vc), b < w1.heap.size)
    (hs : Sl w2 5 1 (.slice va1 (m + n) vc1) (m + n) (bs d ++ bs xs)) (hn : xs.length = n) (k1 : Keep (blks (.slice va m vc)) w1 w2) (hf : Fr w1 (blks (.slice va m vc)) (blks (.slice va1 (m + n) vc1))) :
    (∃ S', WAt (w2.setCell ⟨X, 0, none⟩ (.slice va1 (m + n) vc1)) X S' bad (d ++ xs) ∧ Fr w S0 S') ∧ Keep S0 w (w2.setCell ⟨X, 0, none⟩ (.slice va1 (m + n) vc1)) := by
  have hB2 := hB.keep k1 hX
  have hB3 := hB2.set 0 (.slice va1 (m + n) vc1)
  have hPn : X ∉ blks (.slice va1 (m + n) vc1) := by
    intro h
    rcases hf X h with h1 | h1
    · exact hX h1
    · have := hw1 X (by simp); omega
  have hk : Keep S0 w w2 := k0.trans k1 (fun b hb => Or.inl (hS0 b (by simp [hb])))
  refine ⟨⟨_, ⟨_, hB3, ?_, rfl, hPn⟩, ?_⟩, hk.set (Or.inl (hS0 X (by simp))) _⟩
  · have := hs.keep (Keep.set_one w2 ⟨X, 0, none⟩ (.slice va1 (m + n) vc1)) (by intro b hb; simp only [List.mem_singleton]; rintro rfl; exact hPn hb)
    rw [List.length_append, hm, hn, bs_append]; exact this
  · intro b hb
    rcases List.mem_cons.1 hb with rfl | hb
    · exact Or.inl (hS0 _ (by simp))
    · rcases hf b hb with e | e
      · exact Or.inl (hS0 b (by simp [e]))
      · exact Or.inr (by have := k0.size; omega)

theorem putDoc_bad (X : Nat) (S : List Nat) (d : List UInt8) (c : Cl) (a : Option Addr) (l cap : Nat) (w : World) (hW : WAt w X S true d) :
    Calls Try.prog 20 #[.pointer (some ⟨X, 0, none⟩), clV c a l cap] w fun e w' => e = .returned (.tuple #[]) ∧ Keep [] w w' := by
  obtain ⟨v, hB, hS, rfl, hX⟩ := hW
  have c1 : (w.alloc (.cells #[.int .i64 c.k, .int .i64 c.v, .int .i64 c.u, .slice a l cap] 46)).cell? ⟨X, 1, none⟩ = some (.bool true) := (hB.alloc _).cell (i := 1) rfl
  go_enter Try.func20, Try.ntmps20
  go_wp2_with fail
  go_returns
  exact ⟨rfl, (Keep.refl _ _).alloc _⟩

set_option maxHeartbeats 4000000 in
set_option maxRecDepth 100000 in
theorem putDoc_raw (X : Nat) (S : List Nat) (d : List UInt8) (c : Cl) (a : Option Addr) (l cap : Nat) (w : World) (hW : WAt w X S false d) (hin : InBytes w a l cap c.d) (hk : c.k = 3) (hsum : d.length + l + 5 ≤ 140737488355328) :
    Calls Try.prog 20 #[.pointer (some ⟨X, 0, none⟩), clV c a l cap] w fun e w' => e = .returned (.tuple #[]) ∧ (∃ S', WAt w' X S' false (d ++ c.d) ∧ Fr w S S') ∧ Keep S w w' := by
  obtain ⟨ck, cv, cu, cd⟩ := c
  obtain rfl : ck = 3 := hk
  simp only [clV] at hin ⊢
  obtain ⟨v, hB, hS, rfl, hX⟩ := hW
  obtain ⟨va, vc, rfl, hva, hvr, hvc, hvm, hvn⟩ := hS.form
  obtain ⟨m, hm⟩ : ∃ m, d.length = m := ⟨_, rfl⟩
  have HL := Lib.hid hin.hlen
  rw [hm] at hB hS hX hsum hvc ⊢
  obtain ⟨B, hBB⟩ : ∃ B, w.heap.size = B := ⟨_, rfl⟩
  obtain ⟨w1, hw1⟩ : ∃ w1, w.alloc (.cells #[.int .i64 3, .int .i64 cv, .int .i64 cu, .slice a l cap] 46) = w1 := ⟨_, rfl⟩
  have hC : Blk w1 B #[.int .i64 3, .int .i64 cv, .int .i64 cu, .slice a l cap] 46 := by rw [← hw1, ← hBB]; exact Blk.new w _ 46
  have k1 : Keep [] w w1 := by rw [← hw1]; exact (Keep.refl _ _).alloc _
  have hXB : X ≠ B := by have := hB.lt; omega
  have hB1 := hB.keep k1 (by simp)
  have hS1 := hS.keep k1 (by simp)
  have hr1 := hin.rd.keep k1 (by simp)
  have hlt : ∀ b ∈ X :: blks (.slice va m vc), b < w1.heap.size := by
    intro b hb
    have := k1.size
    rcases List.mem_cons.1 hb with rfl | hb
    · have := hB.lt; omega
    · have := hS.lt b hb; omega
  have HM := Lib.hid hm
  have hnil := hin.hnil
  have kS : Keep (X :: blks (.slice va m vc)) w w1 := k1.mono (by simp)
  go_enter Try.func20, Try.ntmps20
  go_upto_region 1 with fail
  clear hw1 hBB hm
  have d0 : w1.cell? ⟨B, 0, none⟩ = some (.int .i64 3) := hC.cell (i := 0) rfl
  have d1 : w1.cell? ⟨B, 1, none⟩ = some (.int .i64 cv) := hC.cell (i := 1) rfl
  have d2 : w1.cell? ⟨B, 2, none⟩ = some (.int .i64 cu) := hC.cell (i := 2) rfl
  have d3 : w1.cell? ⟨B, 3, none⟩ = some (.slice a l cap) := hC.cell (i := 3) rfl
  have e0 : w1.cell? ⟨X, 0, none⟩ = some (.slice va m vc) := hB1.cell (i := 0) rfl
  have e1 : w1.cell? ⟨X, 1, none⟩ = some (.bool false) := hB1.cell (i := 1) rfl
  have g1 := hB1.free (i := 1)
  go_wp2_with (first
    | (at_builtin; go_must (refine wpList_appendN rfl (.tmp 62) (.tmp 63) 23 rfl 5 (.int .u8 0) 1 1 Try.underlying23 info5 rfl (by omega) (.slice va m vc) m (bs d) rfl hS1 a l cap (bs cd) rfl (by rw [bs_length, HL.out, Nat.mul_one]) hnil hr1 (bs_one cd) (by simp only [maxLen]; omega) (by omega) ?_; intro a9 c9 w9 hs9 hk9 hf9; have hX9 := hB1.keep hk9 hX; have f9 := hX9.free (i := 0); have z9 : w9.cell? ⟨X, 0, none⟩ = some (.slice va m vc) := hX9.cell (i := 0) rfl))
    | fail)
  go_returns
  have := WAt.onto kS hB1 HM.out hX (fun b hb => hb) hlt hs9 HL.out hk9 hf9
  exact ⟨rfl, this.1, this.2⟩

set_option maxHeartbeats 4000000 in
set_option maxRecDepth 100000 in
theorem putDoc_text (X : Nat) (S : List Nat) (d : List UInt8) (c : Cl) (a : Option Addr) (l cap : Nat) (w : World) (hW : WAt w X S false d) (hin : InBytes w a l cap c.d) (hk : c.k = 4) (hl4 : l ≤ 2147483647) (hsum : d.length + l + 5 ≤ 140737488355328) :
    Calls Try.prog 20 #[.pointer (some ⟨X, 0, none⟩), clV c a l cap] w fun e w' => e = .returned (.tuple #[]) ∧ (∃ S', WAt w' X S' false (d ++ textB c.d) ∧ Fr w S S') ∧ Keep S w w' := by
  obtain ⟨ck, cv, cu, cd⟩ := c
  obtain rfl : ck = 4 := hk
  simp only [clV] at hin ⊢
  obtain ⟨v, hB, hS, rfl, hX⟩ := hW
  obtain ⟨va, vc, rfl, hva, hvr, hvc, hvm, hvn⟩ := hS.form
  obtain ⟨m, hm⟩ : ∃ m, d.length = m := ⟨_, rfl⟩
  have HL := Lib.hid hin.hlen
  rw [hm] at hB hS hX hsum hvc ⊢
  obtain ⟨B, hBB⟩ : ∃ B, w.heap.size = B := ⟨_, rfl⟩
  obtain ⟨w1, hw1⟩ : ∃ w1, w.alloc (.cells #[.int .i64 4, .int .i64 cv, .int .i64 cu, .slice a l cap] 46) = w1 := ⟨_, rfl⟩
  have hC : Blk w1 B #[.int .i64 4, .int .i64 cv, .int .i64 cu, .slice a l cap] 46 := by rw [← hw1, ← hBB]; exact Blk.new w _ 46
  have k1 : Keep [] w w1 := by rw [← hw1]; exact (Keep.refl _ _).alloc _
  have hXB : X ≠ B := by have := hB.lt; omega
  have hB1 := hB.keep k1 (by simp)
  have hS1 := hS.keep k1 (by simp)
  have hr1 := hin.rd.keep k1 (by simp)
  have hlt : ∀ b ∈ X :: blks (.slice va m vc), b < w1.heap.size := by
    intro b hb
    have := k1.size
    rcases List.mem_cons.1 hb with rfl | hb
    · have := hB.lt; omega
    · have := hS.lt b hb; omega
  have HM := Lib.hid hm
  have hnil := hin.hnil
  have kS : Keep (X :: blks (.slice va m vc)) w w1 := k1.mono (by simp)
  have hcall := refText_any a l cap cd w1 hin.hlen hnil hr1 hl4
  obtain ⟨R, hR⟩ : ∃ R, textB cd = R := ⟨_, rfl⟩
  obtain ⟨n, hn⟩ : ∃ n, R.length = n := ⟨_, rfl⟩
  have hn5 : n ≤ l + 5 := by rw [← hn, ← hR]; have := textB_len cd (by rw [HL.out]; exact hl4); rw [HL.out] at this; exact this
  rw [hR] at hcall
  unfold Owns at hcall
  rw [hn] at hcall
  have HN := Lib.hid hn
  have HR := Lib.hid hR
  have HCALL := Lib.hid hcall
  clear hR hn hcall
  go_enter Try.func20, Try.ntmps20
  go_upto_region 1 with fail
  clear hw1 hBB hm
  have d0 : w1.cell? ⟨B, 0, none⟩ = some (.int .i64 4) := hC.cell (i := 0) rfl
  have d1 : w1.cell? ⟨B, 1, none⟩ = some (.int .i64 cv) := hC.cell (i := 1) rfl
  have d2 : w1.cell? ⟨B, 2, none⟩ = some (.int .i64 cu) := hC.cell (i := 2) rfl
  have d3 : w1.cell? ⟨B, 3, none⟩ = some (.slice a l cap) := hC.cell (i := 3) rfl
  have e0 : w1.cell? ⟨X, 0, none⟩ = some (.slice va m vc) := hB1.cell (i := 0) rfl
  have e1 : w1.cell? ⟨X, 1, none⟩ = some (.bool false) := hB1.cell (i := 1) rfl
  have g1 := hB1.free (i := 1)
  go_wp2_with (first
    | (go_at_call 49; refine HCALL.out.mono ?_; rintro e w5 ⟨a5, c5, rfl, hs5, hf5, hk5⟩; have hB5 := hB1.keep hk5 (by simp); have hS5 := hS1.keep hk5 (by simp); have hu5 := hs5.use; have z5 : w5.cell? ⟨X, 0, none⟩ = some (.slice va m vc) := hB5.cell (i := 0) rfl; have hlt5 : ∀ b ∈ X :: blks (.slice va m vc), b < w5.heap.size := fun b hb => Nat.lt_of_lt_of_le (hlt b hb) hk5.size)
    | (at_builtin; go_must (refine wpList_appendN rfl (.tmp 62) (.tmp 63) 23 rfl 5 (.int .u8 0) 1 1 Try.underlying23 info5 rfl (by omega) (.slice va m vc) m (bs d) rfl hS5 a5 n c5 (bs R) rfl (by rw [bs_length, HN.out, Nat.mul_one]) hu5.2.1 hu5.2.2.1 (bs_one R) (by simp only [maxLen]; omega) (by omega) ?_; intro a9 c9 w9 hs9 hk9 hf9; have hX9 := hB5.keep hk9 hX; have f9 := hX9.free (i := 0); have z9 : w9.cell? ⟨X, 0, none⟩ = some (.slice va m vc) := hX9.cell (i := 0) rfl))
    | fail)
  rw [HR.out]
  go_returns
  have := WAt.onto (kS.trans' hk5) hB5 HM.out hX (fun b hb => hb) hlt5 hs9 HN.out hk9 hf9
  exact ⟨rfl, this.1, this.2⟩

set_option maxHeartbeats 4000000 in
set_option maxRecDepth 100000 in
theorem putDoc_num (X : Nat) (S : List Nat) (d : List UInt8) (c : Cl) (a : Option Addr) (l cap : Nat) (w : World) (hW : WAt w X S false d) (hin : InBytes w a l cap c.d) (hk : c.k = 1) (hi : isNum c.v = true) (hsum : d.length + l + 5 ≤ 140737488355328) :
    Calls Try.prog 20 #[.pointer (some ⟨X, 0, none⟩), clV c a l cap] w fun e w' => e = .returned (.tuple #[]) ∧ (∃ S', WAt w' X S' false (d ++ numB c.v.toNat) ∧ Fr w S S') ∧ Keep S w w' := by
  obtain ⟨ck, cv, cu, cd⟩ := c
  obtain rfl : ck = 1 := hk
  simp only [clV] at hin hi ⊢
  obtain ⟨v, hB, hS, rfl, hX⟩ := hW
  obtain ⟨va, vc, rfl, hva, hvr, hvc, hvm, hvn⟩ := hS.form
  obtain ⟨m, hm⟩ : ∃ m, d.length = m := ⟨_, rfl⟩
  have HL := Lib.hid hin.hlen
  rw [hm] at hB hS hX hsum hvc ⊢
  obtain ⟨B, hBB⟩ : ∃ B, w.heap.size = B := ⟨_, rfl⟩
  obtain ⟨w1, hw1⟩ : ∃ w1, w.alloc (.cells #[.int .i64 1, .int .i64 cv, .int .i64 cu, .slice a l cap] 46) = w1 := ⟨_, rfl⟩
  have hC : Blk w1 B #[.int .i64 1, .int .i64 cv, .int .i64 cu, .slice a l cap] 46 := by rw [← hw1, ← hBB]; exact Blk.new w _ 46
  have k1 : Keep [] w w1 := by rw [← hw1]; exact (Keep.refl _ _).alloc _
  have hXB : X ≠ B := by have := hB.lt; omega
  have hB1 := hB.keep k1 (by simp)
  have hS1 := hS.keep k1 (by simp)
  have hr1 := hin.rd.keep k1 (by simp)
  have hlt : ∀ b ∈ X :: blks (.slice va m vc), b < w1.heap.size := by
    intro b hb
    have := k1.size
    rcases List.mem_cons.1 hb with rfl | hb
    · have := hB.lt; omega
    · have := hS.lt b hb; omega
  have HM := Lib.hid hm
  have hnil := hin.hnil
  have kS : Keep (X :: blks (.slice va m vc)) w w1 := k1.mono (by simp)
  have hn0 : 0 ≤ cv ∧ cv ≤ 2147483647 := by simpa [isNum] using hi
  obtain ⟨V, rfl⟩ : ∃ V : Nat, cv = V := ⟨cv.toNat, by omega⟩
  simp only [Int.toNat_natCast]
  obtain ⟨R, hR⟩ : ∃ R, numB V = R := ⟨_, rfl⟩
  obtain ⟨n, hn⟩ : ∃ n, R.length = n := ⟨_, rfl⟩
  have hn5 : n ≤ 5 := by rw [← hn, ← hR]; exact (numB_len5 (by omega)).2
  have hcall : ∀ W, Calls Try.prog 46 #[.int .i64 V] W fun e w' => Owns W e w' R := fun W => by rw [← hR]; exact refNumber_any V W (by omega)
  unfold Owns at hcall
  rw [hn] at hcall
  have HN := Lib.hid hn
  have HR := Lib.hid hR
  have HCALL := Lib.hid hcall
  clear hR hn hcall hn0
  go_enter Try.func20, Try.ntmps20
  go_upto_region 1 with fail
  clear hw1 hBB hm
  have d0 : w1.cell? ⟨B, 0, none⟩ = some (.int .i64 1) := hC.cell (i := 0) rfl
  have d1 : w1.cell? ⟨B, 1, none⟩ = some (.int .i64 (V : Int)) := hC.cell (i := 1) rfl
  have d2 : w1.cell? ⟨B, 2, none⟩ = some (.int .i64 cu) := hC.cell (i := 2) rfl
  have d3 : w1.cell? ⟨B, 3, none⟩ = some (.slice a l cap) := hC.cell (i := 3) rfl
  have e0 : w1.cell? ⟨X, 0, none⟩ = some (.slice va m vc) := hB1.cell (i := 0) rfl
  have e1 : w1.cell? ⟨X, 1, none⟩ = some (.bool false) := hB1.cell (i := 1) rfl
  have g1 := hB1.free (i := 1)
  go_upto_region 6 with (first | (go_at_call 45; refine (isNum_any _ _).mono ?_; rintro e w2 ⟨rfl, hw⟩; have hw' := hw.symm; subst hw') | fail)
  have hB2 := hB1.set 1 (.bool false)
  have hS2 := hS1.keep (Keep.set_one w1 ⟨X, 1, none⟩ (.bool false)) (by intro b hb; simp only [List.mem_singleton]; rintro rfl; exact hX hb)
  have hC2 := hC.setOther (a := ⟨X, 1, none⟩) (fun e => hXB e.symm) (.bool false)
  have kS2 : Keep (X :: blks (.slice va m vc)) w (w1.setCell ⟨X, 1, none⟩ (.bool false)) := kS.set (Or.inl (by simp)) _
  have hlt2 : ∀ b ∈ X :: blks (.slice va m vc), b < (w1.setCell ⟨X, 1, none⟩ (.bool false)).heap.size := by simpa using hlt
  generalize w1.setCell ⟨X, 1, none⟩ (.bool false) = w2 at hB2 hS2 hC2 kS2 hlt2 ⊢
  clear d0 d1 d2 d3 e0 e1 g1 hB1 hS1 hC hlt kS
  have d0 : w2.cell? ⟨B, 0, none⟩ = some (.int .i64 1) := hC2.cell (i := 0) rfl
  have d1 : w2.cell? ⟨B, 1, none⟩ = some (.int .i64 (V : Int)) := hC2.cell (i := 1) rfl
  have d2 : w2.cell? ⟨B, 2, none⟩ = some (.int .i64 cu) := hC2.cell (i := 2) rfl
  have e0 : w2.cell? ⟨X, 0, none⟩ = some (.slice va m vc) := hB2.cell (i := 0) rfl
  have e1 : w2.cell? ⟨X, 1, none⟩ = some (.bool false) := hB2.cell (i := 1) rfl
  go_wp2_with (first
    | (go_at_call 46; refine (HCALL.out _).mono ?_; rintro e w5 ⟨a5, c5, rfl, hs5, hf5, hk5⟩; have hB5 := hB2.keep hk5 (by simp); have hS5 := hS2.keep hk5 (by simp); have hu5 := hs5.use; have z5 : w5.cell? ⟨X, 0, none⟩ = some (.slice va m vc) := hB5.cell (i := 0) rfl; have hlt5 : ∀ b ∈ X :: blks (.slice va m vc), b < w5.heap.size := fun b hb => Nat.lt_of_lt_of_le (hlt2 b hb) hk5.size)
    | (at_builtin; go_must (refine wpList_appendN rfl (.tmp 62) (.tmp 63) 23 rfl 5 (.int .u8 0) 1 1 Try.underlying23 info5 rfl (by omega) (.slice va m vc) m (bs d) rfl hS5 a5 n c5 (bs R) rfl (by rw [bs_length, HN.out, Nat.mul_one]) hu5.2.1 hu5.2.2.1 (bs_one R) (by simp only [maxLen]; omega) (by omega) ?_; intro a9 c9 w9 hs9 hk9 hf9; have hX9 := hB5.keep hk9 hX; have f9 := hX9.free (i := 0); have z9 : w9.cell? ⟨X, 0, none⟩ = some (.slice va m vc) := hX9.cell (i := 0) rfl))
    | fail)
  rw [HR.out]
  go_returns
  have := WAt.onto (kS2.trans' hk5) hB5 HM.out hX (fun b hb => hb) hlt5 hs9 HN.out hk9 hf9
  exact ⟨rfl, this.1, this.2⟩

set_option maxHeartbeats 4000000 in
set_option maxRecDepth 100000 in
theorem putDoc_numBad (X : Nat) (S : List Nat) (d : List UInt8) (c : Cl) (a : Option Addr) (l cap : Nat) (w : World) (hW : WAt w X S false d) (hin : InBytes w a l cap c.d) (hk : c.k = 1) (hi : isNum c.v = false) (hsum : d.length + l + 5 ≤ 140737488355328) :
    Calls Try.prog 20 #[.pointer (some ⟨X, 0, none⟩), clV c a l cap] w fun e w' => e = .returned (.tuple #[]) ∧ (∃ S', WAt w' X S' true (d ++ []) ∧ Fr w S S') ∧ Keep S w w' := by
  obtain ⟨ck, cv, cu, cd⟩ := c
  obtain rfl : ck = 1 := hk
  simp only [clV] at hin hi ⊢
  obtain ⟨v, hB, hS, rfl, hX⟩ := hW
  obtain ⟨va, vc, rfl, hva, hvr, hvc, hvm, hvn⟩ := hS.form
  obtain ⟨m, hm⟩ : ∃ m, d.length = m := ⟨_, rfl⟩
  have HL := Lib.hid hin.hlen
  rw [hm] at hB hS hX hsum hvc ⊢
  obtain ⟨B, hBB⟩ : ∃ B, w.heap.size = B := ⟨_, rfl⟩
  obtain ⟨w1, hw1⟩ : ∃ w1, w.alloc (.cells #[.int .i64 1, .int .i64 cv, .int .i64 cu, .slice a l cap] 46) = w1 := ⟨_, rfl⟩
  have hC : Blk w1 B #[.int .i64 1, .int .i64 cv, .int .i64 cu, .slice a l cap] 46 := by rw [← hw1, ← hBB]; exact Blk.new w _ 46
  have k1 : Keep [] w w1 := by rw [← hw1]; exact (Keep.refl _ _).alloc _
  have hXB : X ≠ B := by have := hB.lt; omega
  have hB1 := hB.keep k1 (by simp)
  have hS1 := hS.keep k1 (by simp)
  have hr1 := hin.rd.keep k1 (by simp)
  have hlt : ∀ b ∈ X :: blks (.slice va m vc), b < w1.heap.size := by
    intro b hb
    have := k1.size
    rcases List.mem_cons.1 hb with rfl | hb
    · have := hB.lt; omega
    · have := hS.lt b hb; omega
  have HM := Lib.hid hm
  have hnil := hin.hnil
  have kS : Keep (X :: blks (.slice va m vc)) w w1 := k1.mono (by simp)
  go_enter Try.func20, Try.ntmps20
  go_upto_region 1 with fail
  clear hw1 hBB hm
  have d0 : w1.cell? ⟨B, 0, none⟩ = some (.int .i64 1) := hC.cell (i := 0) rfl
  have d1 : w1.cell? ⟨B, 1, none⟩ = some (.int .i64 cv) := hC.cell (i := 1) rfl
  have d2 : w1.cell? ⟨B, 2, none⟩ = some (.int .i64 cu) := hC.cell (i := 2) rfl
  have d3 : w1.cell? ⟨B, 3, none⟩ = some (.slice a l cap) := hC.cell (i := 3) rfl
  have e0 : w1.cell? ⟨X, 0, none⟩ = some (.slice va m vc) := hB1.cell (i := 0) rfl
  have e1 : w1.cell? ⟨X, 1, none⟩ = some (.bool false) := hB1.cell (i := 1) rfl
  have g1 := hB1.free (i := 1)
  go_upto_region 6 with (first | (go_at_call 45; refine (isNum_any _ _).mono ?_; rintro e w2 ⟨rfl, hw⟩; have hw' := hw.symm; subst hw') | fail)
  have hB2 := hB1.set 1 (.bool true)
  have hS2 := hS1.keep (Keep.set_one w1 ⟨X, 1, none⟩ (.bool true)) (by intro b hb; simp only [List.mem_singleton]; rintro rfl; exact hX hb)
  have hC2 := hC.setOther (a := ⟨X, 1, none⟩) (fun e => hXB e.symm) (.bool true)
  have kS2 : Keep (X :: blks (.slice va m vc)) w (w1.setCell ⟨X, 1, none⟩ (.bool true)) := kS.set (Or.inl (by simp)) _
  have hlt2 : ∀ b ∈ X :: blks (.slice va m vc), b < (w1.setCell ⟨X, 1, none⟩ (.bool true)).heap.size := by simpa using hlt
  generalize w1.setCell ⟨X, 1, none⟩ (.bool true) = w2 at hB2 hS2 hC2 kS2 hlt2 ⊢
  clear d0 d1 d2 d3 e0 e1 g1 hB1 hS1 hC hlt kS
  have d0 : w2.cell? ⟨B, 0, none⟩ = some (.int .i64 1) := hC2.cell (i := 0) rfl
  have d1 : w2.cell? ⟨B, 1, none⟩ = some (.int .i64 cv) := hC2.cell (i := 1) rfl
  have d2 : w2.cell? ⟨B, 2, none⟩ = some (.int .i64 cu) := hC2.cell (i := 2) rfl
  have e0 : w2.cell? ⟨X, 0, none⟩ = some (.slice va m vc) := hB2.cell (i := 0) rfl
  have e1 : w2.cell? ⟨X, 1, none⟩ = some (.bool true) := hB2.cell (i := 1) rfl
  go_wp2_with (first
    | (at_builtin; go_must (refine wpList_appendN rfl (.tmp 62) (.tmp 63) 23 rfl 5 (.int .u8 0) 1 1 Try.underlying23 info5 rfl (by omega) (.slice va m vc) m (bs d) rfl hS2 none 0 0 (bs []) rfl (by rw [bs_length, List.length_nil, Nat.mul_one]) (fun _ => rfl) Rd.nil (bs_one []) (by simp only [maxLen]; omega) (by omega) ?_; intro a9 c9 w9 hs9 hk9 hf9; have hX9 := hB2.keep hk9 hX; have f9 := hX9.free (i := 0); have z9 : w9.cell? ⟨X, 0, none⟩ = some (.slice va m vc) := hX9.cell (i := 0) rfl))
    | fail)
  go_returns
  have := WAt.onto kS2 hB2 HM.out hX (fun b hb => hb) hlt2 hs9 List.length_nil hk9 hf9
  exact ⟨rfl, this.1, this.2⟩

set_option maxHeartbeats 4000000 in
set_option maxRecDepth 100000 in
theorem putDoc_fix (X : Nat) (S : List Nat) (d : List UInt8) (c : Cl) (a : Option Addr) (l cap : Nat) (w : World) (hW : WAt w X S false d) (hin : InBytes w a l cap c.d) (hk : c.k = 2) (hi : isFix c.v c.u = true) (hsum : d.length + l + 5 ≤ 140737488355328) :
    Calls Try.prog 20 #[.pointer (some ⟨X, 0, none⟩), clV c a l cap] w fun e w' => e = .returned (.tuple #[]) ∧ (∃ S', WAt w' X S' false (d ++ fixB c.v.toNat c.u.toNat) ∧ Fr w S S') ∧ Keep S w w' := by
  obtain ⟨ck, cv, cu, cd⟩ := c
  obtain rfl : ck = 2 := hk
  simp only [clV] at hin hi ⊢
  obtain ⟨v, hB, hS, rfl, hX⟩ := hW
  obtain ⟨va, vc, rfl, hva, hvr, hvc, hvm, hvn⟩ := hS.form
  obtain ⟨m, hm⟩ : ∃ m, d.length = m := ⟨_, rfl⟩
  have HL := Lib.hid hin.hlen
  rw [hm] at hB hS hX hsum hvc ⊢
  obtain ⟨B, hBB⟩ : ∃ B, w.heap.size = B := ⟨_, rfl⟩
  obtain ⟨w1, hw1⟩ : ∃ w1, w.alloc (.cells #[.int .i64 2, .int .i64 cv, .int .i64 cu, .slice a l cap] 46) = w1 := ⟨_, rfl⟩
  have hC : Blk w1 B #[.int .i64 2, .int .i64 cv, .int .i64 cu, .slice a l cap] 46 := by rw [← hw1, ← hBB]; exact Blk.new w _ 46
  have k1 : Keep [] w w1 := by rw [← hw1]; exact (Keep.refl _ _).alloc _
  have hXB : X ≠ B := by have := hB.lt; omega
  have hB1 := hB.keep k1 (by simp)
  have hS1 := hS.keep k1 (by simp)
  have hr1 := hin.rd.keep k1 (by simp)
  have hlt : ∀ b ∈ X :: blks (.slice va m vc), b < w1.heap.size := by
    intro b hb
    have := k1.size
    rcases List.mem_cons.1 hb with rfl | hb
    · have := hB.lt; omega
    · have := hS.lt b hb; omega
  have HM := Lib.hid hm
  have hnil := hin.hnil
  have kS : Keep (X :: blks (.slice va m vc)) w w1 := k1.mono (by simp)
  have hn0 : 1 ≤ cu ∧ cu ≤ 4 ∧ 0 ≤ cv ∧ cv < 2 ^ (8 * cu.toNat) := by simpa [isFix] using hi
  obtain ⟨V, rfl⟩ : ∃ V : Nat, cv = V := ⟨cv.toNat, by omega⟩
  obtain ⟨K, rfl⟩ : ∃ K : Nat, cu = K := ⟨cu.toNat, by omega⟩
  simp only [Int.toNat_natCast] at hn0 ⊢
  have hV9 : V < 4294967296 := by
    have h1 : V < 2 ^ (8 * K) := by have := hn0.2.2.2; exact_mod_cast this
    exact Nat.lt_of_lt_of_le h1 (Nat.pow_le_pow_right (by omega) (show 8 * K ≤ 32 by omega))
  obtain ⟨R, hR⟩ : ∃ R, fixB V K = R := ⟨_, rfl⟩
  obtain ⟨n, hn⟩ : ∃ n, R.length = n := ⟨_, rfl⟩
  have hn5 : n ≤ 5 := by rw [← hn, ← hR, fixB_len]; omega
  have hcall : ∀ W, Calls Try.prog 48 #[.int .i64 V, .int .i64 K] W fun e w' => Owns W e w' R := fun W => by rw [← hR]; exact refFixed_any V K W (by omega) (by omega) (by omega)
  unfold Owns at hcall
  rw [hn] at hcall
  have HN := Lib.hid hn
  have HR := Lib.hid hR
  have HCALL := Lib.hid hcall
  clear hR hn hcall hn0
  go_enter Try.func20, Try.ntmps20
  go_upto_region 1 with fail
  clear hw1 hBB hm
  have d0 : w1.cell? ⟨B, 0, none⟩ = some (.int .i64 2) := hC.cell (i := 0) rfl
  have d1 : w1.cell? ⟨B, 1, none⟩ = some (.int .i64 (V : Int)) := hC.cell (i := 1) rfl
  have d2 : w1.cell? ⟨B, 2, none⟩ = some (.int .i64 (K : Int)) := hC.cell (i := 2) rfl
  have d3 : w1.cell? ⟨B, 3, none⟩ = some (.slice a l cap) := hC.cell (i := 3) rfl
  have e0 : w1.cell? ⟨X, 0, none⟩ = some (.slice va m vc) := hB1.cell (i := 0) rfl
  have e1 : w1.cell? ⟨X, 1, none⟩ = some (.bool false) := hB1.cell (i := 1) rfl
  have g1 := hB1.free (i := 1)
  go_upto_region 10 with (first | (go_at_call 47; refine (refIsFix_any _ _ _).mono ?_; rintro e w2 ⟨rfl, hw⟩; have hw' := hw.symm; subst hw') | fail)
  have hB2 := hB1.set 1 (.bool false)
  have hS2 := hS1.keep (Keep.set_one w1 ⟨X, 1, none⟩ (.bool false)) (by intro b hb; simp only [List.mem_singleton]; rintro rfl; exact hX hb)
  have hC2 := hC.setOther (a := ⟨X, 1, none⟩) (fun e => hXB e.symm) (.bool false)
  have kS2 : Keep (X :: blks (.slice va m vc)) w (w1.setCell ⟨X, 1, none⟩ (.bool false)) := kS.set (Or.inl (by simp)) _
  have hlt2 : ∀ b ∈ X :: blks (.slice va m vc), b < (w1.setCell ⟨X, 1, none⟩ (.bool false)).heap.size := by simpa using hlt
  generalize w1.setCell ⟨X, 1, none⟩ (.bool false) = w2 at hB2 hS2 hC2 kS2 hlt2 ⊢
  clear d0 d1 d2 d3 e0 e1 g1 hB1 hS1 hC hlt kS
  have d0 : w2.cell? ⟨B, 0, none⟩ = some (.int .i64 2) := hC2.cell (i := 0) rfl
  have d1 : w2.cell? ⟨B, 1, none⟩ = some (.int .i64 (V : Int)) := hC2.cell (i := 1) rfl
  have d2 : w2.cell? ⟨B, 2, none⟩ = some (.int .i64 (K : Int)) := hC2.cell (i := 2) rfl
  have e0 : w2.cell? ⟨X, 0, none⟩ = some (.slice va m vc) := hB2.cell (i := 0) rfl
  have e1 : w2.cell? ⟨X, 1, none⟩ = some (.bool false) := hB2.cell (i := 1) rfl
  go_wp2_with (first
    | (go_at_call 48; refine (HCALL.out _).mono ?_; rintro e w5 ⟨a5, c5, rfl, hs5, hf5, hk5⟩; have hB5 := hB2.keep hk5 (by simp); have hS5 := hS2.keep hk5 (by simp); have hu5 := hs5.use; have z5 : w5.cell? ⟨X, 0, none⟩ = some (.slice va m vc) := hB5.cell (i := 0) rfl; have hlt5 : ∀ b ∈ X :: blks (.slice va m vc), b < w5.heap.size := fun b hb => Nat.lt_of_lt_of_le (hlt2 b hb) hk5.size)
    | (at_builtin; go_must (refine wpList_appendN rfl (.tmp 62) (.tmp 63) 23 rfl 5 (.int .u8 0) 1 1 Try.underlying23 info5 rfl (by omega) (.slice va m vc) m (bs d) rfl hS5 a5 n c5 (bs R) rfl (by rw [bs_length, HN.out, Nat.mul_one]) hu5.2.1 hu5.2.2.1 (bs_one R) (by simp only [maxLen]; omega) (by omega) ?_; intro a9 c9 w9 hs9 hk9 hf9; have hX9 := hB5.keep hk9 hX; have f9 := hX9.free (i := 0); have z9 : w9.cell? ⟨X, 0, none⟩ = some (.slice va m vc) := hX9.cell (i := 0) rfl))
    | fail)
  rw [HR.out]
  go_returns
  have := WAt.onto (kS2.trans' hk5) hB5 HM.out hX (fun b hb => hb) hlt5 hs9 HN.out hk9 hf9
  exact ⟨rfl, this.1, this.2⟩

set_option maxHeartbeats 4000000 in
set_option maxRecDepth 100000 in
theorem putDoc_fixBad (X : Nat) (S : List Nat) (d : List UInt8) (c : Cl) (a : Option Addr) (l cap : Nat) (w : World) (hW : WAt w X S false d) (hin : InBytes w a l cap c.d) (hk : c.k = 2) (hi : isFix c.v c.u = false) (hsum : d.length + l + 5 ≤ 140737488355328) :
    Calls Try.prog 20 #[.pointer (some ⟨X, 0, none⟩), clV c a l cap] w fun e w' => e = .returned (.tuple #[]) ∧ (∃ S', WAt w' X S' true (d ++ []) ∧ Fr w S S') ∧ Keep S w w' := by
  obtain ⟨ck, cv, cu, cd⟩ := c
  obtain rfl : ck = 2 := hk
  simp only [clV] at hin hi ⊢
  obtain ⟨v, hB, hS, rfl, hX⟩ := hW
  obtain ⟨va, vc, rfl, hva, hvr, hvc, hvm, hvn⟩ := hS.form
  obtain ⟨m, hm⟩ : ∃ m, d.length = m := ⟨_, rfl⟩
  have HL := Lib.hid hin.hlen
  rw [hm] at hB hS hX hsum hvc ⊢
  obtain ⟨B, hBB⟩ : ∃ B, w.heap.size = B := ⟨_, rfl⟩
  obtain ⟨w1, hw1⟩ : ∃ w1, w.alloc (.cells #[.int .i64 2, .int .i64 cv, .int .i64 cu, .slice a l cap] 46) = w1 := ⟨_, rfl⟩
  have hC : Blk w1 B #[.int .i64 2, .int .i64 cv, .int .i64 cu, .slice a l cap] 46 := by rw [← hw1, ← hBB]; exact Blk.new w _ 46
  have k1 : Keep [] w w1 := by rw [← hw1]; exact (Keep.refl _ _).alloc _
  have hXB : X ≠ B := by have := hB.lt; omega
  have hB1 := hB.keep k1 (by simp)
  have hS1 := hS.keep k1 (by simp)
  have hr1 := hin.rd.keep k1 (by simp)
  have hlt : ∀ b ∈ X :: blks (.slice va m vc), b < w1.heap.size := by
    intro b hb
    have := k1.size
    rcases List.mem_cons.1 hb with rfl | hb
    · have := hB.lt; omega
    · have := hS.lt b hb; omega
  have HM := Lib.hid hm
  have hnil := hin.hnil
  have kS : Keep (X :: blks (.slice va m vc)) w w1 := k1.mono (by simp)
  go_enter Try.func20, Try.ntmps20
  go_upto_region 1 with fail
  clear hw1 hBB hm
  have d0 : w1.cell? ⟨B, 0, none⟩ = some (.int .i64 2) := hC.cell (i := 0) rfl
  have d1 : w1.cell? ⟨B, 1, none⟩ = some (.int .i64 cv) := hC.cell (i := 1) rfl
  have d2 : w1.cell? ⟨B, 2, none⟩ = some (.int .i64 cu) := hC.cell (i := 2) rfl
  have d3 : w1.cell? ⟨B, 3, none⟩ = some (.slice a l cap) := hC.cell (i := 3) rfl
  have e0 : w1.cell? ⟨X, 0, none⟩ = some (.slice va m vc) := hB1.cell (i := 0) rfl
  have e1 : w1.cell? ⟨X, 1, none⟩ = some (.bool false) := hB1.cell (i := 1) rfl
  have g1 := hB1.free (i := 1)
  go_upto_region 10 with (first | (go_at_call 47; refine (refIsFix_any _ _ _).mono ?_; rintro e w2 ⟨rfl, hw⟩; have hw' := hw.symm; subst hw') | fail)
  have hB2 := hB1.set 1 (.bool true)
  have hS2 := hS1.keep (Keep.set_one w1 ⟨X, 1, none⟩ (.bool true)) (by intro b hb; simp only [List.mem_singleton]; rintro rfl; exact hX hb)
  have hC2 := hC.setOther (a := ⟨X, 1, none⟩) (fun e => hXB e.symm) (.bool true)
  have kS2 : Keep (X :: blks (.slice va m vc)) w (w1.setCell ⟨X, 1, none⟩ (.bool true)) := kS.set (Or.inl (by simp)) _
  have hlt2 : ∀ b ∈ X :: blks (.slice va m vc), b < (w1.setCell ⟨X, 1, none⟩ (.bool true)).heap.size := by simpa using hlt
  generalize w1.setCell ⟨X, 1, none⟩ (.bool true) = w2 at hB2 hS2 hC2 kS2 hlt2 ⊢
  clear d0 d1 d2 d3 e0 e1 g1 hB1 hS1 hC hlt kS
  have d0 : w2.cell? ⟨B, 0, none⟩ = some (.int .i64 2) := hC2.cell (i := 0) rfl
  have d1 : w2.cell? ⟨B, 1, none⟩ = some (.int .i64 cv) := hC2.cell (i := 1) rfl
  have d2 : w2.cell? ⟨B, 2, none⟩ = some (.int .i64 cu) := hC2.cell (i := 2) rfl
  have e0 : w2.cell? ⟨X, 0, none⟩ = some (.slice va m vc) := hB2.cell (i := 0) rfl
  have e1 : w2.cell? ⟨X, 1, none⟩ = some (.bool true) := hB2.cell (i := 1) rfl
  go_wp2_with (first
    | (at_builtin; go_must (refine wpList_appendN rfl (.tmp 62) (.tmp 63) 23 rfl 5 (.int .u8 0) 1 1 Try.underlying23 info5 rfl (by omega) (.slice va m vc) m (bs d) rfl hS2 none 0 0 (bs []) rfl (by rw [bs_length, List.length_nil, Nat.mul_one]) (fun _ => rfl) Rd.nil (bs_one []) (by simp only [maxLen]; omega) (by omega) ?_; intro a9 c9 w9 hs9 hk9 hf9; have hX9 := hB2.keep hk9 hX; have f9 := hX9.free (i := 0); have z9 : w9.cell? ⟨X, 0, none⟩ = some (.slice va m vc) := hX9.cell (i := 0) rfl))
    | fail)
  go_returns
  have := WAt.onto kS2 hB2 HM.out hX (fun b hb => hb) hlt2 hs9 List.length_nil hk9 hf9
  exact ⟨rfl, this.1, this.2⟩

set_option maxHeartbeats 4000000 in
set_option maxRecDepth 100000 in
theorem putDoc_other (X : Nat) (S : List Nat) (d : List UInt8) (c : Cl) (a : Option Addr) (l cap : Nat) (w : World) (hW : WAt w X S false d) (hin : InBytes w a l cap c.d) (hk1 : (c.k == 1) = false) (hk2 : (c.k == 2) = false) (hk3 : (c.k == 3) = false) (hk4 : (c.k == 4) = false) (hsum : d.length + l + 5 ≤ 140737488355328) :
    Calls Try.prog 20 #[.pointer (some ⟨X, 0, none⟩), clV c a l cap] w fun e w' => e = .returned (.tuple #[]) ∧ (∃ S', WAt w' X S' false (d ++ []) ∧ Fr w S S') ∧ Keep S w w' := by
  obtain ⟨ck, cv, cu, cd⟩ := c
  simp only [clV] at hin hk1 hk2 hk3 hk4 ⊢
  obtain ⟨v, hB, hS, rfl, hX⟩ := hW
  obtain ⟨va, vc, rfl, hva, hvr, hvc, hvm, hvn⟩ := hS.form
  obtain ⟨m, hm⟩ : ∃ m, d.length = m := ⟨_, rfl⟩
  have HL := Lib.hid hin.hlen
  rw [hm] at hB hS hX hsum hvc ⊢
  obtain ⟨B, hBB⟩ : ∃ B, w.heap.size = B := ⟨_, rfl⟩
  obtain ⟨w1, hw1⟩ : ∃ w1, w.alloc (.cells #[.int .i64 ck, .int .i64 cv, .int .i64 cu, .slice a l cap] 46) = w1 := ⟨_, rfl⟩
  have hC : Blk w1 B #[.int .i64 ck, .int .i64 cv, .int .i64 cu, .slice a l cap] 46 := by rw [← hw1, ← hBB]; exact Blk.new w _ 46
  have k1 : Keep [] w w1 := by rw [← hw1]; exact (Keep.refl _ _).alloc _
  have hXB : X ≠ B := by have := hB.lt; omega
  have hB1 := hB.keep k1 (by simp)
  have hS1 := hS.keep k1 (by simp)
  have hr1 := hin.rd.keep k1 (by simp)
  have hlt : ∀ b ∈ X :: blks (.slice va m vc), b < w1.heap.size := by
    intro b hb
    have := k1.size
    rcases List.mem_cons.1 hb with rfl | hb
    · have := hB.lt; omega
    · have := hS.lt b hb; omega
  have HM := Lib.hid hm
  have hnil := hin.hnil
  have kS : Keep (X :: blks (.slice va m vc)) w w1 := k1.mono (by simp)
  go_enter Try.func20, Try.ntmps20
  go_upto_region 1 with fail
  clear hw1 hBB hm
  have d0 : w1.cell? ⟨B, 0, none⟩ = some (.int .i64 ck) := hC.cell (i := 0) rfl
  have d1 : w1.cell? ⟨B, 1, none⟩ = some (.int .i64 cv) := hC.cell (i := 1) rfl
  have d2 : w1.cell? ⟨B, 2, none⟩ = some (.int .i64 cu) := hC.cell (i := 2) rfl
  have d3 : w1.cell? ⟨B, 3, none⟩ = some (.slice a l cap) := hC.cell (i := 3) rfl
  have e0 : w1.cell? ⟨X, 0, none⟩ = some (.slice va m vc) := hB1.cell (i := 0) rfl
  have e1 : w1.cell? ⟨X, 1, none⟩ = some (.bool false) := hB1.cell (i := 1) rfl
  have g1 := hB1.free (i := 1)
  go_wp2_with (first
    | (at_builtin; go_must (refine wpList_appendN rfl (.tmp 62) (.tmp 63) 23 rfl 5 (.int .u8 0) 1 1 Try.underlying23 info5 rfl (by omega) (.slice va m vc) m (bs d) rfl hS1 none 0 0 (bs []) rfl (by rw [bs_length, List.length_nil, Nat.mul_one]) (fun _ => rfl) Rd.nil (bs_one []) (by simp only [maxLen]; omega) (by omega) ?_; intro a9 c9 w9 hs9 hk9 hf9; have hX9 := hB1.keep hk9 hX; have f9 := hX9.free (i := 0); have z9 : w9.cell? ⟨X, 0, none⟩ = some (.slice va m vc) := hX9.cell (i := 0) rfl))
    | fail)
  go_returns
  have := WAt.onto kS hB1 HM.out hX (fun b hb => hb) hlt hs9 List.length_nil hk9 hf9
  exact ⟨rfl, this.1, this.2⟩

/-- put: what the document says was written. -/
theorem putDoc_any (X : Nat) (S : List Nat) (bad : Bool) (d : List UInt8) (c : Cl) (a : Option Addr) (l cap : Nat) (w : World) (hW : WAt w X S bad d) (hin : InBytes w a l cap c.d) (hsum : d.length + l + 5 ≤ 140737488355328) (hl4 : l ≤ 2147483647) :
    Calls Try.prog 20 #[.pointer (some ⟨X, 0, none⟩), clV c a l cap] w fun e w' => e = .returned (.tuple #[]) ∧ (∃ S', WAt w' X S' (bad || cBad c) (putD (bad || cBad c) d (cBytes c)) ∧ Fr w S S') ∧ Keep S w w' := by
  cases bad with
  | true =>
    refine (putDoc_bad X S d c a l cap w hW).mono ?_
    rintro e w' ⟨h1, h2⟩
    exact ⟨h1, ⟨S, by simpa [putD] using hW.keep h2 (by simp), Fr.refl _ _⟩, h2.mono (by simp)⟩
  | false =>
    have fin : ∀ bb R, cBad c = bb → (bb = false → cBytes c = R) → (bb = true → R = []) → Calls Try.prog 20 #[.pointer (some ⟨X, 0, none⟩), clV c a l cap] w (fun e w' => e = .returned (.tuple #[]) ∧ (∃ S', WAt w' X S' bb (d ++ R) ∧ Fr w S S') ∧ Keep S w w') →
        Calls Try.prog 20 #[.pointer (some ⟨X, 0, none⟩), clV c a l cap] w fun e w' => e = .returned (.tuple #[]) ∧ (∃ S', WAt w' X S' (false || cBad c) (putD (false || cBad c) d (cBytes c)) ∧ Fr w S S') ∧ Keep S w w' := by
      intro bb R h1 h2 h3 h
      have e : putD (false || cBad c) d (cBytes c) = d ++ R := by
        rw [h1]
        cases bb with
        | false => simp [putD, h2 rfl]
        | true => simp [putD, h3 rfl]
      rw [e, h1]; simpa using h
    by_cases k1 : c.k = 1
    · cases hi : isNum c.v with
      | true => exact fin false (numB c.v.toNat) (by simp [cBad, k1, hi]) (fun _ => by simp [cBytes, k1]) (by simp) (putDoc_num X S d c a l cap w hW hin k1 hi hsum)
      | false => exact fin true [] (by simp [cBad, k1, hi]) (by simp) (fun _ => rfl) (putDoc_numBad X S d c a l cap w hW hin k1 hi hsum)
    · by_cases k2 : c.k = 2
      · cases hi : isFix c.v c.u with
        | true => exact fin false (fixB c.v.toNat c.u.toNat) (by simp [cBad, k1, k2, hi]) (fun _ => by simp [cBytes, k1, k2]) (by simp) (putDoc_fix X S d c a l cap w hW hin k2 hi hsum)
        | false => exact fin true [] (by simp [cBad, k1, k2, hi]) (by simp) (fun _ => rfl) (putDoc_fixBad X S d c a l cap w hW hin k2 hi hsum)
      · by_cases k3 : c.k = 3
        · exact fin false c.d (by simp [cBad, k1, k2]) (fun _ => by simp [cBytes, k1, k2, k3]) (by simp) (putDoc_raw X S d c a l cap w hW hin k3 hsum)
        · by_cases k4 : c.k = 4
          · exact fin false (textB c.d) (by simp [cBad, k1, k2]) (fun _ => by simp [cBytes, k1, k2, k3, k4]) (by simp) (putDoc_text X S d c a l cap w hW hin k4 hl4 hsum)
          · exact fin false [] (by simp [cBad, k1, k2]) (fun _ => by simp [cBytes, k1, k2, k3, k4]) (by simp) (putDoc_other X S d c a l cap w hW hin (by simpa using k1) (by simpa using k2) (by simpa using k3) (by simpa using k4) hsum)
end Go.Proofs.Ytkhplfgehcljmaa

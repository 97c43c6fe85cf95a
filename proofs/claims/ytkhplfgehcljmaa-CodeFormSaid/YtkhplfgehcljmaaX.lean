/- known: answers that the document fixes. -/
import Derived.Test.YtkhplfgehcljmaaW
set_option linter.unusedVariables false
set_option linter.unusedSimpArgs false
namespace Go.Proofs.Ytkhplfgehcljmaa
open Go.RowKit

theorem conv_same (b o n c : Nat) (w : World) : (convert 23 23 (.slice (some ⟨b, o, none⟩) n c)).run Try.prog w = .ok (.slice (some ⟨b, o, none⟩) n c) (frz w b) := run_convert_frz 23 5 Try.underlying23 Try.underlying5 b o n c w
/-- A new Writer. -/
theorem WrAt.new (w : World) : WrAt (w.alloc (.cells #[.int .i64 0, .int .i64 0, .slice none 0 0] 40)) w.heap.size [w.heap.size] false [] :=
  ⟨0, 0, _, Blk.new w _ 40, Sl.nil _ _ _, rfl, rfl, by simp [blks, Value.ownBlock]⟩

def kB : List UInt8 := [172, 2, 1, 2, 2, 97, 98, 9]
def kR : List UInt8 := [172, 2, 1, 2, 2, 97, 98, 9, 128]
theorem num300 : numB 300 = [172, 2] := by rw [numB_big (by omega), numB_small (by omega)]; rfl
theorem k1 : putD false [] (numB (300 : Int).toNat) = [172, 2] := by rw [show (300 : Int).toNat = 300 from rfl, num300]; rfl
theorem k2 : putD false [172, 2] (fixB (258 : Int).toNat (2 : Int).toNat) = [172, 2, 1, 2] := rfl
theorem k3 : putD false [172, 2, 1, 2] (textB [97, 98]) = [172, 2, 1, 2, 2, 97, 98] := by
  rw [textB, show ([97, 98] : List UInt8).length = 2 from rfl, numB_small (by omega)]; rfl
theorem k4 : putD false [172, 2, 1, 2, 2, 97, 98] [9] = kB := rfl
theorem i300 : isNum 300 = true := rfl
theorem i258 : isFix 258 2 = true := rfl
theorem r1 : rNumber kR ⟨0, 0, 0⟩ = (300, ⟨0, 0, 2⟩) := by kernel_rfl
theorem r2 : rFixed kR ⟨0, 0, 2⟩ 2 = (258, ⟨0, 0, 4⟩) := by kernel_rfl
theorem r3 : rText kR ⟨0, 0, 4⟩ 2 = ([97, 98], ⟨0, 0, 7⟩) := by kernel_rfl
theorem r4 : rRaw kR ⟨0, 0, 7⟩ 1 = ([9], ⟨0, 0, 8⟩) := by kernel_rfl
theorem r5 : rLeft kR ⟨0, 0, 8⟩ = 1 := by decide +kernel
theorem r6 : rNumber kR ⟨0, 0, 8⟩ = (0, ⟨10, 8, 8⟩) := by kernel_rfl
theorem crcPallet : crc [112, 97, 108, 108, 101, 116] = 1634575015 := by decide +kernel

theorem rdMade (w : World) (c : Array Value) (vs : List Value) (b : Nat) (hb : b = w.heap.size) (h : c.toList = vs) : Rd (w.alloc (.cells c 5)) (some ⟨b, 0, none⟩) vs := Rd.made w c 5 (0, 0) vs b hb h

set_option maxHeartbeats 8000000 in
set_option maxRecDepth 100000 in
theorem known_any (w : World) : Calls Try.prog 18 #[] w fun e w' => e = .returned (.bool true) ∧ Keep [] w w' := by
  have hcv := conv_same
  obtain ⟨P, hP⟩ : ∃ P, w.heap.size = P := ⟨_, rfl⟩
  obtain ⟨w1, hw1⟩ : ∃ w1, w.alloc (.cells #[.int .i64 0, .int .i64 0, .slice none 0 0] 40) = w1 := ⟨_, rfl⟩
  have hW1 : WrAt w1 P [P] false [] := by rw [← hw1, ← hP]; exact WrAt.new w
  have kk1 : Keep [] w w1 := by rw [← hw1]; exact (Keep.refl _ _).alloc _
  have hPw : w.heap.size ≤ P := by omega
  have c1 := number_any P [P] false [] 300 w1 hW1 rfl (by simp)
  rw [i300, show (false || !true) = false from rfl, k1] at c1
  have C1 := Lib.hid c1
  clear c1
  go_enter Try.func18, Try.ntmps18
  go_upto_region 3 with (first
    | (go_at_call 34; refine C1.out.mono ?_; rintro e w2 ⟨rfl, ⟨S2, hW2, hf2⟩, hk2⟩)
    | fail)
  clear hw1 hP C1
  have c2 := fixed_any P S2 false [172, 2] 258 2 w2 hW2 rfl (by simp)
  rw [i258, show (false || !true) = false from rfl, k2] at c2
  have C2 := Lib.hid c2
  clear c2
  go_upto_region 4 with (first
    | (go_at_call 36; refine C2.out.mono ?_; rintro e w3 ⟨rfl, ⟨S3, hW3, hf3⟩, hk3⟩)
    | fail)
  have n2 : ∀ b ∈ S2, w.heap.size ≤ b := fun b hb => by
    rcases hf2 b hb with h | h
    · simp only [List.mem_singleton] at h; omega
    · have := kk1.size; omega
  have kA2 : Keep [] w w2 := kk1.trans hk2 (by simpa using hPw)
  have kA3 : Keep [] w w3 := kA2.trans hk3 (fun b hb => Or.inr (n2 b hb))
  have n3 : ∀ b ∈ S3, w.heap.size ≤ b := fun b hb => by
    rcases hf3 b hb with h | h
    · exact n2 b h
    · have := kA2.size; omega
  clear hk2 hk3 hf2 hf3 hW1 hW2 C2 kk1 kA2 n2
  obtain ⟨b4, hb4⟩ : ∃ b4, w3.heap.size = b4 := ⟨_, rfl⟩
  obtain ⟨w4, hw4⟩ : ∃ w4, frz (w3.alloc (.cells #[.int .u8 97, .int .u8 98] 5)) b4 = w4 := ⟨_, rfl⟩
  have kB : Keep [] w3 w4 := by rw [← hw4]; exact ((Keep.refl [] w3).alloc _).frz (Or.inr (by omega))
  have hr4 : Rd w4 (some ⟨b4, 0, none⟩) (bs [97, 98]) := by rw [← hw4]; exact (rdMade w3 _ _ b4 hb4.symm rfl).frz b4
  have hW4 := hW3.keep kB (by simp)
  have z4 : b4 < w4.heap.size := by rw [← hw4, frz_size]; simp; omega
  have c3 := text_any P S3 false [172, 2, 1, 2] [97, 98] (some ⟨b4, 0, none⟩) 2 2 w4 hW4 rfl (by simp) hr4 (fun _ h => by have := hW3.lt _ h; have e : ablk (some ⟨b4, 0, none⟩) = b4 := rfl; omega) (by simp) (by omega) (fun _ => z4)
  rw [k3] at c3
  have C3 := Lib.hid c3
  clear c3
  go_upto_region 5 with (first
    | (go_at_call 38; refine C3.out.mono ?_; rintro e w5 ⟨rfl, ⟨S5, hW5, hf5⟩, hk5⟩)
    | fail)
  have kA5 : Keep [] w w5 := (kA3.trans' kB).trans hk5 (fun b hb => Or.inr (n3 b hb))
  have n5 : ∀ b ∈ S5, w.heap.size ≤ b := fun b hb => by
    rcases hf5 b hb with h | h
    · exact n3 b h
    · have := kA3.size; have := kB.size; omega
  clear hk5 hf5 hW4 hW3 C3 kA3 n3 kB hr4 z4 hw4 hb4
  obtain ⟨b6, hb6⟩ : ∃ b6, w5.heap.size = b6 := ⟨_, rfl⟩
  obtain ⟨w6, hw6⟩ : ∃ w6, w5.alloc (.cells #[.int .u8 9] 5) = w6 := ⟨_, rfl⟩
  have kB : Keep [] w5 w6 := by rw [← hw6]; exact (Keep.refl [] w5).alloc _
  have hr6 : Rd w6 (some ⟨b6, 0, none⟩) (bs [9]) := by rw [← hw6]; exact rdMade w5 _ _ b6 hb6.symm rfl
  have hW6 := hW5.keep kB (by simp)
  have c4 := raw_any P S5 false [172, 2, 1, 2, 2, 97, 98] [9] (some ⟨b6, 0, none⟩) 1 1 w6 hW6 rfl (by simp) hr6 (fun _ h => by have := hW5.lt P hW5.self; have e : ablk (some ⟨b6, 0, none⟩) = b6 := rfl; omega) (by simp)
  rw [k4] at c4
  have C4 := Lib.hid c4
  clear c4
  go_upto_region 6 with (first
    | (go_at_call 37; refine C4.out.mono ?_; rintro e w7 ⟨rfl, ⟨S7, hW7, hf7⟩, hk7⟩)
    | fail)
  have kA7 : Keep [] w w7 := (kA5.trans' kB).trans hk7 (fun b hb => Or.inr (n5 b hb))
  clear hk7 hf7 hW6 hW5 C4 kA5 n5 kB hr6 hw6 hb6
  have C5 := Lib.hid (data_ok P S7 kB w7 hW7 (by simp [kB]))
  go_upto_region 7 with (first
    | (go_at_call 25; refine C5.out.mono ?_; rintro e w8 ⟨a8, n8, c8, rfl, rfl, hs8, hf8, hk8⟩)
    | fail)
  have kA8 : Keep [] w w8 := kA7.trans' hk8
  clear C5 hk8 hW7 kA7
  have hx8 : (kB.length : Nat) = 8 := rfl
  rw [hx8] at hs8 hf8 ⊢
  obtain ⟨b9, hb9⟩ : ∃ b9, w8.heap.size = b9 := ⟨_, rfl⟩
  obtain ⟨w9, hw9⟩ : ∃ w9, w8.alloc (.cells #[.int .u8 172, .int .u8 2, .int .u8 1, .int .u8 2, .int .u8 2, .int .u8 97, .int .u8 98, .int .u8 9, .int .u8 128] 5) = w9 := ⟨_, rfl⟩
  have kB9 : Keep [] w8 w9 := by rw [← hw9]; exact (Keep.refl [] w8).alloc _
  have hr9 : Rd w9 (some ⟨b9, 0, none⟩) (bs kR) := by rw [← hw9]; exact rdMade w8 _ _ b9 hb9.symm rfl
  have C6 := Lib.hid (read_any (some ⟨b9, 0, none⟩) 9 9 kR w9 rfl (by simp) hr9 (by omega))
  clear hx8
  go_upto_region 8 with (first
    | (go_at_call 23; refine C6.out.mono ?_; rintro e w10 ⟨R, U, rfl, hR, hfU, hk10⟩)
    | fail)
  have kA10 : Keep [] w w10 := (kA8.trans' kB9).trans' hk10
  have hs10 := (hs8.keep kB9 (by simp)).keep hk10 (by simp)
  clear hs8 C6 hw9 hb9 hr9
  have nU : ∀ b ∈ U, w.heap.size ≤ b := fun b hb => by have := hfU.out b hb; have := kA8.size; have := kB9.size; omega
  obtain ⟨b11, hb11⟩ : ∃ b11, w10.heap.size = b11 := ⟨_, rfl⟩
  obtain ⟨w11, hw11⟩ : ∃ w11, w10.alloc (.cells #[.int .u8 172, .int .u8 2, .int .u8 1, .int .u8 2, .int .u8 2, .int .u8 97, .int .u8 98, .int .u8 9] 5) = w11 := ⟨_, rfl⟩
  have kB11 : Keep [] w10 w11 := by rw [← hw11]; exact (Keep.refl [] w10).alloc _
  have hr11 : Rd w11 (some ⟨b11, 0, none⟩) (bs kB) := by rw [← hw11]; exact rdMade w10 _ _ b11 hb11.symm rfl
  have hby := bytes_any a8 (some ⟨b11, 0, none⟩) 8 8 c8 8 kB kB w11 rfl rfl (by omega) (hs10.keep kB11 (by simp)).use.2.2.1 hr11
  rw [beq_self_eq_true] at hby
  have C7 := Lib.hid hby
  clear hby kA8 kB9 hfU hk10
  go_upto_region 10 with (first
    | (go_at_call 26; refine (num'_any _ _).mono ?_; rintro e w2 ⟨rfl, hw⟩; have hw' := hw.symm; subst hw')
    | (go_at_call 35; refine C7.out.mono ?_; rintro e w12 ⟨rfl, m12, rfl⟩)
    | fail)
  have hR12 : RdAt (w11.drewN m12) R U kR ⟨0, 0, 0⟩ := (hR.keep kB11 (by simp)).keep ((Keep.refl [] w11).drewN) (by simp)
  have kA12 : Keep [] w (w11.drewN m12) := (kA10.trans' kB11).drewN
  have hRw : w.heap.size ≤ R := nU R hR.self
  clear C7 hr11 hs10 hw11 hb11 kB11 kA10 hR
  generalize w11.drewN m12 = w13 at hR12 kA12 ⊢
  have D1 := Lib.hid (rnumber_any R U kR ⟨0, 0, 0⟩ w13 hR12)
  rw [r1] at D1
  go_upto_region 11 with (first
    | (go_at_call 28; refine D1.out.mono ?_; rintro e w14 ⟨rfl, hR14, hk14⟩)
    | fail)
  have kA14 : Keep [] w w14 := kA12.trans hk14 (by simpa using hRw)
  have D2 := Lib.hid (rfixed_any R U kR ⟨0, 0, 2⟩ 2 w14 hR14)
  rw [r2] at D2
  clear D1 hR12 kA12 hk14
  go_upto_region 12 with (first
    | (go_at_call 29; refine D2.out.mono ?_; rintro e w15 ⟨rfl, hR15, hk15⟩)
    | fail)
  have kA15 : Keep [] w w15 := kA14.trans hk15 (by simpa using hRw)
  have D3 := rtext_any R U kR ⟨0, 0, 4⟩ 2 w15 hR15 (by omega)
  rw [r3] at D3
  unfold Gives at D3
  have D3 := Lib.hid D3
  clear D2 hR14 kA14 hk15
  go_upto_region 13 with (first
    | (go_at_call 31; refine D3.out.mono ?_; rintro e w16 ⟨a16, c16, rfl, hs16, hf16, hR16, hk16⟩)
    | fail)
  have kA16 : Keep [] w w16 := kA15.trans hk16 (by simpa using hRw)
  have D4 := rraw_any R U kR ⟨0, 0, 7⟩ 1 w16 hR16 (by omega)
  rw [r4] at D4
  unfold Gives at D4
  have D4 := Lib.hid D4
  have hs16' : Sl w16 5 1 (.slice a16 2 c16) 2 (bs [97, 98]) := hs16
  have o16 : R ∉ blks (.slice a16 2 c16) := fun h => by
    have h1 := hf16.out R h
    have h2 := hR15.lt R hR15.self
    omega
  clear D3 hR15 hs16 hk16
  go_upto_region 14 with (first
    | (go_at_call 30; refine D4.out.mono ?_; rintro e w17 ⟨a17, c17, rfl, hs17, hf17, hR17, hk17⟩)
    | fail)
  have kA17 : Keep [] w w17 := kA16.trans hk17 (by simpa using hRw)
  have hs16b := hs16'.keep hk17 (fun b hb => by simp only [List.mem_singleton]; rintro rfl; exact o16 hb)
  have hs17' : Sl w17 5 1 (.slice a17 1 c17) 1 (bs [9]) := hs17
  have o17 : R ∉ blks (.slice a17 1 c17) := fun h => by
    have h1 := hf17.out R h
    have h2 := hR16.lt R hR16.self
    omega
  have D5 := Lib.hid (rleft_any R U kR ⟨0, 0, 8⟩ w17 hR17)
  rw [r5] at D5
  clear D4 hR16 hs17 hs16' hk17 kA16 kA15 hf16
  go_upto_region 15 with (first
    | (go_at_call 32; refine D5.out.mono ?_; rintro e w18 ⟨rfl, hR18, hk18⟩)
    | fail)
  have kA18 : Keep [] w w18 := kA17.trans' hk18
  have hs16c := hs16b.keep hk18 (by simp)
  have hs17c := hs17'.keep hk18 (by simp)
  have D6 := Lib.hid (rnumber_any R U kR ⟨0, 0, 8⟩ w18 hR18)
  rw [r6] at D6
  clear D5 hR17 hs16b hs17' hk18 kA17
  go_upto_region 16 with (first
    | (go_at_call 28; refine D6.out.mono ?_; rintro e w19 ⟨rfl, hR19, hk19⟩)
    | fail)
  have kA19 : Keep [] w w19 := kA18.trans hk19 (by simpa using hRw)
  have hs16d := hs16c.keep hk19 (fun b hb => by simp only [List.mem_singleton]; rintro rfl; exact o16 hb)
  have hs17d := hs17c.keep hk19 (fun b hb => by simp only [List.mem_singleton]; rintro rfl; exact o17 hb)
  have D7 := Lib.hid (rerr_any R U kR ⟨10, 8, 8⟩ w19 hR19)
  clear D6 hR18 hs16c hs17c hk19 kA18
  go_upto_region 17 with (first
    | (go_at_call 27; refine D7.out.mono ?_; rintro e w20 ⟨rfl, hR20, hk20⟩)
    | fail)
  have kA20 : Keep [] w w20 := kA19.trans' hk20
  have hs16e := hs16d.keep hk20 (by simp)
  have hs17e := hs17d.keep hk20 (by simp)
  clear D7 hR19 hs16d hs17d hk20 kA19
  -- the last statement
  obtain ⟨b21, hb21⟩ : ∃ b, w20.heap.size = b := ⟨_, rfl⟩
  obtain ⟨w21, hw21⟩ : ∃ w21, frz (w20.alloc (.cells #[.int .u8 97, .int .u8 98] 5)) b21 = w21 := ⟨_, rfl⟩
  have kB21 : Keep [] w20 w21 := by rw [← hw21]; exact ((Keep.refl [] w20).alloc _).frz (Or.inr (by omega))
  have hr21 : Rd w21 (some ⟨b21, 0, none⟩) (bs [97, 98]) := by rw [← hw21]; exact (rdMade w20 _ _ b21 hb21.symm rfl).frz b21
  have hs16f := hs16e.keep kB21 (by simp)
  have hs17f := hs17e.keep kB21 (by simp)
  have e1 := bytes_any a16 (some ⟨b21, 0, none⟩) 2 2 c16 2 [97, 98] [97, 98] w21 rfl rfl (by omega) hs16f.use.2.2.1 hr21
  rw [beq_self_eq_true] at e1
  have E1 := Lib.hid e1
  clear e1
  go_wp2_with fail
  refine E1.out.mono ?_
  rintro e w22 ⟨rfl, m22, rfl⟩
  have hs17g : Sl (w21.drewN m22) 5 1 (.slice a17 1 c17) 1 (bs [9]) := hs17f.keep ((Keep.refl [] _).drewN) (by simp)
  have kA22 : Keep [] w (w21.drewN m22) := (kA20.trans' kB21).drewN
  clear E1 hs16f hs17f hs17e hs16e kB21 hr21 hw21 hb21 kA20 hR20
  generalize w21.drewN m22 = w23 at hs17g kA22 ⊢
  obtain ⟨b24, hb24⟩ : ∃ b, w23.heap.size = b := ⟨_, rfl⟩
  obtain ⟨w24, hw24⟩ : ∃ w24, w23.alloc (.cells #[.int .u8 9] 5) = w24 := ⟨_, rfl⟩
  have kB24 : Keep [] w23 w24 := by rw [← hw24]; exact (Keep.refl [] w23).alloc _
  have hr24 : Rd w24 (some ⟨b24, 0, none⟩) (bs [9]) := by rw [← hw24]; exact rdMade w23 _ _ b24 hb24.symm rfl
  have e1 := bytes_any a17 (some ⟨b24, 0, none⟩) 1 1 c17 1 [9] [9] w24 rfl rfl (by omega) (hs17g.keep kB24 (by simp)).use.2.2.1 hr24
  rw [beq_self_eq_true] at e1
  have E2 := Lib.hid e1
  clear e1
  go_wp2_with fail
  refine E2.out.mono ?_
  rintro e w25 ⟨rfl, m25, rfl⟩
  have kA25 : Keep [] w (w24.drewN m25) := (kA22.trans' kB24).drewN
  clear E2 hs17g kB24 hr24 hw24 hb24 kA22
  generalize w24.drewN m25 = w26 at kA25 ⊢
  obtain ⟨b27, hb27⟩ : ∃ b, w26.heap.size = b := ⟨_, rfl⟩
  obtain ⟨w27, hw27⟩ : ∃ w27, frz (w26.alloc (.cells #[.int .u8 112, .int .u8 97, .int .u8 108, .int .u8 108, .int .u8 101, .int .u8 116] 5)) b27 = w27 := ⟨_, rfl⟩
  have kB27 : Keep [] w26 w27 := by rw [← hw27]; exact ((Keep.refl [] w26).alloc _).frz (Or.inr (by omega))
  have hr27 : Rd w27 (some ⟨b27, 0, none⟩) (bs [112, 97, 108, 108, 101, 116]) := by rw [← hw27]; exact (rdMade w26 _ _ b27 hb27.symm rfl).frz b27
  have e1 := sum_any (some ⟨b27, 0, none⟩) 6 6 [112, 97, 108, 108, 101, 116] w27 rfl (by omega) hr27
  rw [crcPallet] at e1
  have E3 := Lib.hid e1
  clear e1
  go_wp2_with (first
    | (go_at_call 26; refine (num'_any _ _).mono ?_; rintro e w2 ⟨rfl, hw⟩; have hw' := hw.symm; subst hw')
    | (go_at_call 14; refine E3.out.mono ?_; rintro e w28 ⟨rfl, hk28⟩)
    | fail)
  go_returns
  exact ⟨rfl, (kA25.trans' kB27).trans' hk28⟩
end Go.Proofs.Ytkhplfgehcljmaa

/- Kn Tg -/
import Derived.Test.YtpocegdlobnhaaaGG
import Derived.Test.YtpocegdlobnhaaaGD
import Derived.Test.YtpocegdlobnhaaaSn
import Derived.Test.YtpocegdlobnhaaaGI
import Derived.Test.YtpocegdlobnhaaaGH
import Derived.Test.YtpocegdlobnhaaaSo
section
/- known: the program makes the document's deltas of two blocks, and applies them. -/
set_option linter.unusedVariables false
set_option linter.unusedSimpArgs false
set_option maxRecDepth 100000
namespace Go.Proofs.Ytpocegdlobnhaaa
open Go.RowKit

theorem InBytes.of_sl {w : World} {a : Option Addr} {n c : Nat} {xs : List UInt8} (s : Sl w 5 1 (.slice a n c) n (bs xs)) (hl : xs.length = n) (hk : n ≤ 140737488351232) : InBytes w a n c xs := by
  obtain ⟨a', c', e, ea, hrd, hle, hm, hnil⟩ := s.form
  obtain ⟨rfl, rfl⟩ : a = a' ∧ c = c' := by simpa using e
  exact ⟨hl, hrd, hle, hnil, by simpa [maxLen] using hm, hk⟩

theorem sl_rep (w : World) (n : Nat) (hn : n ≤ maxLen) : Sl (w.alloc (.cells (Array.replicate n (B8 0)) 5)) 5 1 (.slice (some ⟨w.heap.size, 0, none⟩) n n) n (bs (List.replicate n 0)) := by
  refine ⟨by simp, Or.inr ⟨w.heap.size, n, [], [], rfl, ?_, by omega, by simp, hn⟩⟩
  rw [List.nil_append, List.append_nil, ← Cod.rep_bs]; exact Blk.new _ _ _
set_option maxHeartbeats 1000000 in
theorem row_any (x : UInt8) (w : World) : Calls Try.prog 40 #[.int .u8 (x.toNat : Nat)] w fun e w' => ∃ a c, e = .returned (.slice a 16 c) ∧ Sl w' 5 1 (.slice a 16 c) 16 (bs (rowX x)) ∧ Fr w [] (blks (.slice a 16 c)) ∧ Keep [] w w' := by
  have hmk : ∀ w, (Instr.makeSlice 22 (.int .i64 16) (.int .i64 16)).run Try.prog w = .ok (.slice (some ⟨w.heap.size, 0, none⟩) 16 16) (w.alloc (.cells (Array.replicate 16 (B8 0)) 5)) := fun w => Cod.mk_any 16 (by omega) w
  obtain ⟨X, hX⟩ : ∃ X : Nat, x.toNat = X := ⟨_, rfl⟩
  have HX := Lib.hid hX
  rw [hX]
  obtain ⟨H, hH⟩ : ∃ H, w.heap.size = H := ⟨_, rfl⟩
  obtain ⟨W, hW⟩ : ∃ W, w.alloc (.cells (Array.replicate 16 (B8 0)) 5) = W := ⟨_, rfl⟩
  have S0 : Sl W 5 1 (.slice (some ⟨H, 0, none⟩) 16 16) 16 (bs (List.replicate 16 0)) := by
    rw [← hW, ← hH]
    exact sl_rep w 16 (by simp only [maxLen]; omega)
  have kW : Keep [] w W := by rw [← hW]; exact (Keep.refl [] w).alloc _
  obtain ⟨p1, p2, p3, p4⟩ := S0.put (k := 0) (by omega) (B8 x)
  rw [bs_set] at p1
  have hB : B8 x = .int .u8 (X : Nat) := by rw [← hX]
  rw [hB] at p1 p2
  have p4' : W.cell? ⟨H, 0, none⟩ = some (.int .u8 0) := p4
  have HW := Lib.hid hW
  have HH := Lib.hid hH
  have hp3 : W.frozen? ⟨H, 0, none⟩ = false := p3
  have HF := Lib.hid (And.intro p1 p2)
  clear hW hH p1 p2 S0 hB hX p3 p4
  go_enter Try.func40, Try.ntmps40
  go_upto_region 2 with (first | (simp only [hmk, HW.out, HH.out]) | fail)
  clear hmk
  go_wp2_with fail
  go_returns
  refine ⟨_, _, rfl, HF.out.1, fun b hb => ?_, kW.trans HF.out.2 (fun b hb => ?_)⟩
  · rw [show b = H by simpa [blks, Value.ownBlock] using hb, ← HH.out]; exact Or.inr (Nat.le_refl _)
  · rw [List.mem_singleton.1 hb, ← HH.out]; exact Or.inr (Nat.le_refl _)
theorem row_1 (w : World) : Calls Try.prog 40 #[.int .u8 1] w fun e w' => ∃ a c, e = .returned (.slice a 16 c) ∧ Sl w' 5 1 (.slice a 16 c) 16 (bs (rowX 1)) ∧ Fr w [] (blks (.slice a 16 c)) ∧ Keep [] w w' := row_any 1 w
theorem row_2 (w : World) : Calls Try.prog 40 #[.int .u8 2] w fun e w' => ∃ a c, e = .returned (.slice a 16 c) ∧ Sl w' 5 1 (.slice a 16 c) 16 (bs (rowX 2)) ∧ Fr w [] (blks (.slice a 16 c)) ∧ Keep [] w w' := row_any 2 w

theorem mak_len (s : Sg) (d : List UInt8) : (makO s d).1.length ≤ 131072 := by
  unfold makO; (repeat' split) <;> simp <;> omega
set_option maxHeartbeats 4000000 in
theorem known_any (w : World) : Calls Try.prog 14 #[] w fun e w' => e = .returned (.bool true) ∧ Keep [] w w' := by
  obtain ⟨r1, hr1⟩ : ∃ r, rowX 1 = r := ⟨_, rfl⟩
  obtain ⟨r2, hr2⟩ : ∃ r, rowX 2 = r := ⟨_, rfl⟩
  have hl1 : r1.length = 16 := by rw [← hr1]; rfl
  have hl2 : r2.length = 16 := by rw [← hr2]; rfl
  have R1 := Lib.hid row_1
  have R2 := Lib.hid row_2
  rw [hr1] at R1
  rw [hr2] at R2
  have HBA := Lib.hid (show bs r1 ++ bs r2 ++ [Value.int .u8 3] = bs baX by rw [baX, hr1, hr2, bs_append, bs_append]; rfl)
  have HTA := Lib.hid (show [Value.int .u8 9] ++ bs r1 ++ [Value.int .u8 8] = bs taX by rw [taX, hr1, bs_append, bs_append]; rfl)
  have L1 := Lib.hid hl1
  have L2 := Lib.hid hl2
  clear hl1 hl2 hr1 hr2
  go_enter Try.func14, Try.ntmps14
  go_upto_region 2 with (first
    | (go_at_call 40; refine (R1.out _).mono ?_; rintro e w1 ⟨a1, c1, rfl, s1, f1, k1⟩)
    | (go_at_call 40; refine (R2.out _).mono ?_; rintro e w2 ⟨a2, c2, rfl, s2, f2, k2⟩; have k12 := k1.trans' k2)
    | (at_builtin; (refine wpList_appendN rfl (.tmp 11) (.tmp 12) 22 rfl 5 (.int .u8 0) 1 1 Try.underlying22 info5 rfl (by omega) (.slice a1 16 c1) 16 (bs r1) rfl (s1.keep k2 (by simp)) a2 16 c2 (bs r2) rfl (by rw [bs_length, L2.out]) (sl_nilcap s2) s2.rd (bs_one r2) (by simp only [maxLen]; omega) (by omega) ?_; intro a3 c3 w3 hs3 hk3 hf3))
    | (at_builtin; refine wpList_append1 w3 rfl (.tmp 13) (.tmp 14) 22 rfl 5 (.int .u8 0) 1 Try.underlying22 info5 rfl (.int .u8 3) rfl (.slice a3 32 c3) 32 _ rfl hs3 rfl (by simp only [maxLen]; omega) (by omega) ?_; intro a4 c4 w4 hs4 hk4 hf4)
    | fail)
  have kA : Keep [] w w3 := k12.trans hk3 (fun b hb => (f1 b hb).elim (fun h => by cases h) Or.inr)
  have F3 := f1.trans hf3 k12.size
  have kB : Keep [] w w4 := kA.trans hk4 (fun b hb => (F3 b hb).elim (fun h => by cases h) Or.inr)
  have hsB : Sl w4 5 1 (.slice a4 33 c4) 33 (bs baX) := by have := hs4; rwa [HBA.out] at this
  obtain ⟨H5, hH5⟩ : ∃ H, w4.heap.size = H := ⟨_, rfl⟩
  obtain ⟨w5, hw5⟩ : ∃ W, w4.alloc (.cells #[.int .u8 9] 5) = W := ⟨_, rfl⟩
  have S5 : Sl w5 5 1 (.slice (some ⟨H5, 0, none⟩) 1 1) 1 [.int .u8 9] := by
    rw [← hw5, ← hH5]
    exact ⟨rfl, Or.inr ⟨w4.heap.size, 1, [], [], rfl, Blk.new w4 #[.int .u8 9] 5, by omega, by simp, by simp only [maxLen]; omega⟩⟩
  have kC : Keep [] w4 w5 := by rw [← hw5]; exact (Keep.refl [] w4).alloc _
  have F5 : Fr w4 [] (blks (.slice (some ⟨H5, 0, none⟩) 1 1)) := fun b hb => by
    rw [show b = H5 by simpa [blks, Value.ownBlock] using hb, ← hH5]; exact Or.inr (Nat.le_refl _)
  have HW5 := Lib.hid hw5
  have HH5 := Lib.hid hH5
  clear hw5 hH5 hs4 hk3 hf3 hk4 hf4 hs3 s1 s2 f1 f2 k1 k2 k12 kA F3
  go_upto_region 3 with (first
    | (go_at_call 40; rw [HW5.out, HH5.out]; refine (R1.out _).mono ?_; rintro e w6 ⟨a6, c6, rfl, s6, f6, k6⟩)
    | (at_builtin; (refine wpList_appendN rfl (.tmp 16) (.tmp 17) 22 rfl 5 (.int .u8 0) 1 1 Try.underlying22 info5 rfl (by omega) (.slice (some ⟨H5, 0, none⟩) 1 1) 1 [.int .u8 9] rfl (S5.keep k6 (by simp)) a6 16 c6 (bs r1) rfl (by rw [bs_length, L1.out]) (sl_nilcap s6) s6.rd (bs_one r1) (by simp only [maxLen]; omega) (by omega) ?_; intro a7 c7 w7 hs7 hk7 hf7))
    | (at_builtin; refine wpList_append1 w7 rfl (.tmp 18) (.tmp 19) 22 rfl 5 (.int .u8 0) 1 Try.underlying22 info5 rfl (.int .u8 8) rfl (.slice a7 17 c7) 17 _ rfl hs7 rfl (by simp only [maxLen]; omega) (by omega) ?_; intro a8 c8 w8 hs8 hk8 hf8)
    | fail)
  have k46 := kC.trans' k6
  have k47 : Keep [] w4 w7 := k46.trans hk7 (fun b hb => (F5 b hb).elim (fun h => by cases h) Or.inr)
  have F7 := F5.trans hf7 k46.size
  have k48 : Keep [] w4 w8 := k47.trans hk8 (fun b hb => (F7 b hb).elim (fun h => by cases h) Or.inr)
  have hsT : Sl w8 5 1 (.slice a8 18 c8) 18 (bs taX) := by have := hs8; rwa [HTA.out] at this
  have inB := InBytes.of_sl (hsB.keep k48 (by simp)) rfl (by omega)
  have inT := InBytes.of_sl hsT rfl (by omega)
  have kw8 := kB.trans' k48
  clear hs8 hs7 hk7 hf7 hk8 hf8 k46 k47 F7 F5 S5 kC k48 hsB hsT s6 f6 k6 kB HW5 HH5 R1 R2 HBA HTA L1 L2
  have SG := sign_any 32 a4 33 c4 baX 16 w8 inB
  rw [sg_X.1, sg_X.2] at SG
  obtain ⟨dX, hdX⟩ : ∃ d, (makO (signR 32 baX 16 2) taX).1 = d := ⟨_, rfl⟩
  have hmk : makO (signR 32 baX 16 2) taX = (dX, 0) := by rw [← hdX, ← mk_X]
  have hap := ap_X
  have hay := ap_Y
  have hdl : dX.length ≤ 131072 := by rw [← hdX]; exact mak_len _ _
  rw [hdX] at hap hay
  have hbl := bl_X
  obtain ⟨sx, hsx⟩ : ∃ s, signR 32 baX 16 2 = s := ⟨_, rfl⟩
  rw [hsx] at SG hmk hbl
  obtain ⟨bX, hbX⟩ : ∃ b, baX = b := ⟨_, rfl⟩
  obtain ⟨tX, htX⟩ : ∃ b, taX = b := ⟨_, rfl⟩
  have hbxl : bX.length = 33 := by rw [← hbX]; rfl
  have htxl : tX.length = 18 := by rw [← htX]; rfl
  rw [hbX] at hap hay inB
  rw [htX] at hmk hap inT
  obtain ⟨gb, ob, rfl, -⟩ := inB.rd.at (k := 0) (by rw [bs_length, hbxl]; omega)
  clear hsx hdX hbX htX
  have HSG := Lib.hid SG
  have HBL := Lib.hid hbl
  have HMK := Lib.hid hmk
  have HAP := Lib.hid hap
  have HAY := Lib.hid hay
  have HDL := Lib.hid hdl
  have HBX := Lib.hid hbxl
  have HTX := Lib.hid htxl
  have j1 : (32 : Int) ≤ c4 := by have := inB.hle; omega
  have HG36 := Lib.hid (fun a c => (by simpa using sx.len a 2 c) : ∀ a c, (sx.cells a 2 c).toArray.size = 36)
  clear SG hbl hmk hap hay hdl hbxl htxl
  go_upto_region 4 with (first
    | (go_at_call 16; refine HSG.out.mono ?_; rintro e w9 ⟨a9, n9, c9, rfl, hn9, s9, f9, k9⟩; obtain rfl : n9 = 2 := by rw [← hn9]; exact HBL.out)
    | (refine Dig.wpList_store_last rfl 29 (.tmp 3) (.tmp 24) rfl _ _ (sx.cells a9 2 c9).toArray rfl rfl rfl (by rw [HG36.out]; rfl) (by rw [HG36.out]; rfl) (sx.all a9 2 c9) ?_)
    | fail)
  have B10 : Blk (w9.alloc (.cells (sx.cells a9 2 c9).toArray 29)) w9.heap.size (sx.cells a9 2 c9).toArray 29 := Blk.new _ _ _
  have k10 : Keep [] w9 (w9.alloc (.cells (sx.cells a9 2 c9).toArray 29)) := (Keep.refl [] w9).alloc _
  obtain ⟨W10, hW10⟩ : ∃ W, w9.alloc (.cells (sx.cells a9 2 c9).toArray 29) = W := ⟨_, rfl⟩
  obtain ⟨p10, hp10⟩ : ∃ p, w9.heap.size = p := ⟨_, rfl⟩
  rw [hW10] at B10 k10 ⊢
  rw [hp10] at B10 ⊢
  have wsX : WsIn W10 a9 2 c9 sx.blocks := (WsIn.of_sl s9 HBL.out (by omega)).keep k10 (by simp)
  have k8a := k9.trans' k10
  have MKA := make_any sx a9 2 c9 a8 18 c8 tX W10 wsX (inT.keep k8a (by simp))
  rw [HMK.out] at MKA
  have HMA := Lib.hid MKA
  have rA := rangeAt_of_blk B10
  have c35 := sg_blocks B10
  have kwa := kw8.trans' k8a
  have inB2 := inB.keep k8a (by simp)
  have inT2 := inT.keep k8a (by simp)
  obtain ⟨cl, hcl⟩ : ∃ cl, sx.cells a9 2 c9 = cl := ⟨_, rfl⟩
  have hi := hi29 sx a9 2 c9
  rw [hcl] at rA HMA hi ⊢
  clear hcl MKA B10 hW10 hp10 k10 wsX inB inT kw8 k8a k9 s9 f9 hn9
  go_upto_region 5 with (first
    | (refine wpList_load_mid rfl 29 (.tmp 3) rfl p10 0 rfl cl _ rA Try.underlying29 rfl hi ?_)
    | (go_at_call 22; refine HMA.out.mono ?_; rintro e w11 ⟨ad, nd, cd, rfl, hnd, sd, fd, kd⟩; have HND := Lib.hid hnd; clear hnd)
    | fail)
  have inD : InBytes w11 ad nd cd dX := InBytes.of_sl sd HND.out.symm (by rw [HND.out]; have := HDL.out; omega)
  have inB3 := inB2.keep kd (by simp)
  have APA := apply_any (some ⟨gb, ob, none⟩) ad 33 c4 nd cd bX dX w11 inB3 inD
  rw [HAP.out] at APA
  have HAA := Lib.hid APA
  have c35b := kd.cell c35 (by simp)
  have kwb := kwa.trans' kd
  have inT3 := inT2.keep kd (by simp)
  clear APA rA hi c35 inB2 inT2 kwa kd sd fd HND HMA
  go_upto_region 6 with (first
    | (go_at_call 26; refine HAA.out.mono ?_; rintro e w12 ⟨ag, ng, cg, rfl, hng, sg, fg, kg⟩; have HNG := Lib.hid hng; clear hng)
    | fail)
  have inB4 : InBytes w12 (some ⟨gb, ob, none⟩) 32 c4 (bX.take 32) := by
    have h := inB3.keep kg (by simp)
    exact ⟨by rw [List.length_take, HBX.out]; rfl, rd_take h.rd 32, by omega, h.hnil, h.reach, by omega⟩
  have APB := apply_any (some ⟨gb, ob, none⟩) ad 32 c4 nd cd (bX.take 32) dX w12 inB4 (inD.keep kg (by simp))
  rw [HAY.out] at APB
  have HAB := Lib.hid APB
  have c35c := kg.cell c35b (by simp)
  have kwc := kwb.trans' kg
  have inT4 := inT3.keep kg (by simp)
  clear APB c35b inB3 inB4 inD inT3 kwb kg fg HAA
  go_upto_region 7 with (first
    | (go_at_call 26; refine HAB.out.mono ?_; rintro e w13 ⟨ah, nh, ch, rfl, hnh, sh, fh, kh⟩; clear hnh)
    | fail)
  have c35d := kh.cell c35c (by simp)
  have inT5 := inT4.keep kh (by simp)
  have kwd := kwc.trans' kh
  have SM := Lib.hid (same_any ag a8 ng cg 18 c8 tX tX w13 HNG.out.symm (sg.keep kh (by simp)).rd HTX.out inT5.rd (by rw [HNG.out, HTX.out]; omega))
  have HDD := Lib.hid (show decide (tX = tX) = true by simp)
  rw [HDD.out] at SM
  clear c35c inT4 inT5 kwc kh sh fh sg HAB
  go_wp2_with (first
    | (go_at_call 24; refine SM.out.mono ?_; rintro e w14 ⟨rfl, k14⟩)
    | fail)
  go_returns
  exact ⟨rfl, kwd.trans' k14⟩
end Go.Proofs.Ytpocegdlobnhaaa
end
section
/- DeltaSigns: its walk. -/
set_option linter.unusedVariables false
set_option linter.unusedSimpArgs false
set_option maxRecDepth 100000
namespace Go.Proofs.Ytpocegdlobnhaaa
open Go.RowKit

theorem RoomB.bytes {w : World} {a : Option Addr} {n c : Nat} {xs : List UInt8} (h : RoomB w a n c xs) (hk : n ≤ 140737488351232) : InBytes w a n c xs := by
  obtain ⟨a', c', e, ea, hrd, hle, hm, hnil⟩ := h.2.2.form
  obtain ⟨rfl, rfl⟩ : a = a' ∧ c = c' := by simpa using e
  exact ⟨h.1, h.rd, by omega, hnil, by simpa [maxLen] using hm, hk⟩
theorem ws_sg {w : World} {a : Option Addr} {n c : Nat} {s : Sg} (h : Sl w 45 33 (.slice a n c) n (cellsW s.blocks)) (hl : s.blocks.length = n) (hb : s.blocks.length ≤ 131072) : WsIn w a n c s.blocks := WsIn.of_sl h hl (by omega)
theorem signS_len (wd : Int) (d : List UInt8) (sz : Int) : (signS wd d sz).blocks.length ≤ 131072 := by
  unfold signS
  split
  · rename_i h
    rw [show (signR wd d sz.toNat (d.length / sz.toNat)).blocks.length = d.length / sz.toNat from signBl_len _ _ _ _]
    have hd : d.length ≤ 131072 := by
      unfold signC at h
      split at h
      · split at h
        · cases h
        · omega
      · cases h
    exact Nat.le_trans (Nat.div_le_self _ _) hd
  · simp [zeroG]

set_option maxHeartbeats 8000000 in
theorem deltaSigns_walk (wd : Int) (a : Option Addr) (n c : Nat) (d : List UInt8) (sz at' : Int) (w : World) (hwd : (Lit.int .i64 wd).wf = true) (hx : InBytes w a n c d) (hsz : (Lit.int .i64 sz).wf = true) (hat : (Lit.int .i64 at').wf = true) :
    Calls Try.prog 3 #[.int .i64 wd, .slice a n c, .int .i64 sz, .int .i64 at'] w fun e w' => e = .returned (.bool true) ∧ Keep [] w w' := by
  clear hwd hsz hat
  have hn := hx.short
  have HL := Lib.hid hx.hlen
  have hnil := hx.hnil
  go_enter Try.func3, Try.ntmps3
  go_upto_region 3 with (first
    | (go_at_call 14; refine (known_any _).mono ?_; rintro e w1 ⟨rfl, k1⟩)
    | fail)
  have r1 := hx.rd.keep k1 (by simp)
  clear hx
  go_upto_region 4 with (first
    | (at_builtin; go_must (refine wpList_app0 w1 rfl (.tmp 18) (.tmp 19) 22 rfl 5 _ 1 1 Try.underlying22 info5 rfl (by omega) rfl a n c (bs d) rfl (by rw [bs_length, HL.out, Nat.mul_one]) hnil r1 (bs_one d) (by simp only [maxLen]; omega) (by omega) ?_; intro aw cw w2 hs2 k2 F2))
    | fail)
  have l2 := hs2.lt
  have kk2 := k1.trans' k2
  go_upto_region 5 with (first
    | (go_at_call 15; refine (roomy_any aw n cw d _ HL.out (sl_nilcap hs2) hs2.rd (by omega)).mono ?_; rintro e w3 ⟨ab, cb, rfl, hB, F3, k3⟩)
    | fail)
  have kk3 := kk2.trans' k3
  have hs3 := hs2.keep k3 (by simp)
  have hdis : ∀ b ∈ blks (.slice ab n cb), b ∉ blks (.slice aw n cw) := fun b hb hb2 => by
    have := fr_old F3 b hb
    have := l2 b hb2
    omega
  have HDIS := Lib.hid hdis
  have HFB := Lib.hid (fun b hb => Nat.le_trans kk2.size (fr_old F3 b hb) : ∀ b ∈ blks (.slice ab n cb), w.heap.size ≤ b)
  have HFW := Lib.hid (fun b hb => Nat.le_trans k1.size (fr_old F2 b hb) : ∀ b ∈ blks (.slice aw n cw), w.heap.size ≤ b)
  clear hs2 k1 k2 k3 kk2 F2 F3 l2 hdis hnil r1
  go_upto_region 6 with fail
  go_loopw [11] (fun v11 wr => ∃ (i : Nat) (xs : List UInt8), i ≤ 2 ∧ v11 = .int .i64 (i : Nat) ∧ Sl wr 5 1 (.slice aw n cw) n (bs xs) ∧ RoomB wr ab n cb xs ∧ Keep [] w wr) (fun v11 _ => 2 - (intOf v11).toNat)
  case atStart => exact ⟨0, d, by omega, rfl, hs3, hB, kk3⟩
  case round =>
    clear hs3 hB kk3
    obtain ⟨i, xs, hi, rfl, sW, rB, kk⟩ := hrel
    by_cases hlt : i < 2
    · have i1 : (i : Int) < 2 := by omega
      have hxl := rB.1
      obtain ⟨G, hG⟩ : ∃ G, signS wd xs sz = G := ⟨_, rfl⟩
      obtain ⟨Z, hZ⟩ : ∃ Z, signC wd xs sz = Z := ⟨_, rfl⟩
      have hGl := signS_len wd xs sz
      have E1 := Lib.hid (fun W h => by have := sign_any wd ab n cb xs sz W (h.bytes hn); rwa [hG, hZ] at this : ∀ W, RoomB W ab n cb xs → Calls Try.prog 16 #[.int .i64 wd, .slice ab n cb, .int .i64 sz] W (GiveG W G Z))
      have E2 := Lib.hid (fun W h => by have := refSign_any wd aw n cw xs sz W (InBytes.of_sl h hxl hn); rwa [hG, hZ] at this : ∀ W, Sl W 5 1 (.slice aw n cw) n (bs xs) → Calls Try.prog 17 #[.int .i64 wd, .slice aw n cw, .int .i64 sz] W (GiveG W G Z))
      have ST := Lib.hid (fun W h r => by have := stands_any ab aw n cb n cw xs xs W h hxl r; rwa [decide_eq_true rfl] at this : ∀ W, RoomB W ab n cb xs → Rd W aw (bs xs) → Calls Try.prog 19 #[.slice ab n cb, .slice aw n cw] W fun e w' => e = .returned (.bool true) ∧ Keep [] W w')
      rw [hG] at hGl
      have HGL := Lib.hid hGl
      have HG36 := Lib.hid (fun a n c => (by simpa using G.len a n c) : ∀ a n c, (G.cells a n c).toArray.size = 36)
      clear hG hZ hGl hxl
      go_upto_region 9 with (first
        | (go_at_call 16; refine (E1.out _ rB).mono ?_; rintro e w4 ⟨a4, n4, c4, rfl, hn4, s4, f4, k4⟩; have HN4 := Lib.hid hn4; clear hn4)
        | (refine Dig.wpList_store_last rfl 29 (.tmp 12) (.tmp 32) rfl _ _ (G.cells a4 n4 c4).toArray rfl rfl rfl (by rw [HG36.out]; rfl) (by rw [HG36.out]; rfl) (G.all a4 n4 c4) ?_)
        | fail)
      have B5 : Blk (w4.alloc (.cells (G.cells a4 n4 c4).toArray 29)) w4.heap.size (G.cells a4 n4 c4).toArray 29 := Blk.new _ _ _
      have k5 : Keep [] w4 (w4.alloc (.cells (G.cells a4 n4 c4).toArray 29)) := (Keep.refl [] w4).alloc _
      obtain ⟨W5, hW5⟩ : ∃ W, w4.alloc (.cells (G.cells a4 n4 c4).toArray 29) = W := ⟨_, rfl⟩
      obtain ⟨p5, hp5⟩ : ∃ p, w4.heap.size = p := ⟨_, rfl⟩
      rw [hW5] at B5 k5 ⊢
      rw [hp5] at B5 ⊢
      have k45 := k4.trans' k5
      have ws5 := (ws_sg s4 HN4.out HGL.out).keep k5 (by simp)
      have sW5 := sW.keep k45 (by simp)
      have rB5 := rB.keep k45 (by simp)
      have kk5 := kk.trans' k45
      clear hW5 hp5 k4 k5 k45 s4 f4 sW rB kk E1
      go_upto_region 10 with (first
        | (go_at_call 17; refine (E2.out _ sW5).mono ?_; rintro e w6 ⟨a6, n6, c6, rfl, hn6, s6, f6, k6⟩; obtain rfl : n4 = n6 := by rw [← hn6]; exact HN4.out.symm)
        | (refine Dig.wpList_store_last rfl 29 (.tmp 14) (.tmp 39) rfl _ _ (G.cells a6 n4 c6).toArray rfl rfl rfl (by rw [HG36.out]; rfl) (by rw [HG36.out]; rfl) (G.all a6 n4 c6) ?_)
        | fail)
      have B7 : Blk (w6.alloc (.cells (G.cells a6 n4 c6).toArray 29)) w6.heap.size (G.cells a6 n4 c6).toArray 29 := Blk.new _ _ _
      have k7 : Keep [] w6 (w6.alloc (.cells (G.cells a6 n4 c6).toArray 29)) := (Keep.refl [] w6).alloc _
      obtain ⟨W7, hW7⟩ : ∃ W, w6.alloc (.cells (G.cells a6 n4 c6).toArray 29) = W := ⟨_, rfl⟩
      obtain ⟨p7, hp7⟩ : ∃ p, w6.heap.size = p := ⟨_, rfl⟩
      rw [hW7] at B7 k7 ⊢
      rw [hp7] at B7 ⊢
      have k67 := k6.trans' k7
      have ws7 := (ws_sg s6 hn6 HGL.out).keep k7 (by simp)
      have ws57 := ws5.keep k67 (by simp)
      have sW7 := sW5.keep k67 (by simp)
      have rB7 := rB5.keep k67 (by simp)
      have kk7 := kk5.trans' k67
      have B57 := B5.keep k67 (by simp)
      have AL := Lib.hid (alike_eq G a4 a6 n4 c4 c6 W7 ws57 ws7)
      have rA5 := rangeAt_of_blk B57
      have rA7 := rangeAt_of_blk B7
      have hi5 := hi29 G a4 n4 c4
      have hi7 := hi29 G a6 n4 c6
      obtain ⟨c5l, hc5⟩ : ∃ l, G.cells a4 n4 c4 = l := ⟨_, rfl⟩
      obtain ⟨c7l, hc7⟩ : ∃ l, G.cells a6 n4 c6 = l := ⟨_, rfl⟩
      rw [hc5] at AL rA5 hi5 ⊢
      rw [hc7] at AL rA7 hi7 ⊢
      clear hc5 hc7 hW7 hp7 k6 k7 k67 s6 f6 hn6 sW5 rB5 kk5 E2 B5 B7 B57 ws5 ws57 ws7
      go_upto_region 12 with (first
        | (refine wpList_load_mid_w 29 (.tmp 12) rfl rfl p5 0 rfl c5l _ rA5 Try.underlying29 rfl hi5 ?_)
        | (refine wpList_load_mid_w 29 (.tmp 14) rfl rfl p7 0 rfl c7l _ rA7 Try.underlying29 rfl hi7 ?_)
        | (go_at_call 18; refine AL.out.mono ?_; rintro e w8 ⟨rfl, k8⟩)
        | (go_at_call 19; refine (ST.out _ (rB7.keep k8 (by simp)) (sW7.keep k8 (by simp)).rd).mono ?_; rintro e w9 ⟨rfl, k9⟩)
        | fail)
      have k89 := k8.trans' k9
      have sW9 := sW7.keep k89 (by simp)
      have rB9 := rB7.keep k89 (by simp)
      have kk9 := kk7.trans' k89
      have TU := Lib.hid (turnedB_any ab n cb aw cw xs at' w9 rB9 sW9 HDIS.out)
      clear k8 k9 k89 sW7 rB7 kk7 rA5 rA7 hi5 hi7 AL ST
      by_cases h0 : n = 0
      · have HD := Lib.hid (show decide (0 < n) = false from decide_eq_false (by omega))
        clear h0
        go_wp2_with (first
          | (go_at_call 20; refine TU.out.mono ?_; rintro e wt ⟨ys, rfl, rT, sT, kT⟩; rw [HD.out])
          | fail)
        go_returns
        refine ⟨rfl, kk9.trans kT (fun b hb => ?_)⟩
        rcases List.mem_append.1 hb with h | h
        · exact Or.inr (HFB.out b h)
        · exact Or.inr (HFW.out b h)
      · have HD := Lib.hid (show decide (0 < n) = true from decide_eq_true (by omega))
        clear h0
        go_wp2_with (first
          | (go_at_call 20; refine TU.out.mono ?_; rintro e wt ⟨ys, rfl, rT, sT, kT⟩; rw [HD.out])
          | fail)
        refine ⟨⟨i + 1, ys, by omega, by go_num, sT, rT, kk9.trans kT (fun b hb => ?_)⟩, by simp [intOf]; omega⟩
        rcases List.mem_append.1 hb with h | h
        · exact Or.inr (HFB.out b h)
        · exact Or.inr (HFW.out b h)
    · obtain rfl : i = 2 := by omega
      go_wp2_with fail
      go_returns
      exact ⟨rfl, kk⟩
end Go.Proofs.Ytpocegdlobnhaaa
end

/- TableFinds: its walk. -/
import Derived.Test.YtjdkeabimcajlaaFd
import Derived.Test.YtjdkeabimcajlaaTw
set_option linter.unusedVariables false
set_option linter.unusedSimpArgs false
namespace Go.Proofs.Ytjdkeabimcajlaa
open Go.RowKit

set_option maxHeartbeats 2000000 in
set_option maxRecDepth 100000 in
theorem tableFinds_walk (a : Option Addr) (n c : Nat) (l : List Res) (key : List UInt8) (w : World) (hx : RsIn w a n c l) (hkey : key.length = 32) :
    Calls Try.prog 7 #[.slice a n c, .agg (bs key).toArray] w fun e w' => e = .returned (.bool true) ∧ Keep [] w w' := by
  have hl := hx.hlen
  have hsh := hx.short
  have HHI := hi37 hkey
  obtain ⟨v1, hv1⟩ : ∃ v, findV l key = v := ⟨_, rfl⟩
  obtain ⟨y1, hy1⟩ : ∃ v, findB l key = v := ⟨_, rfl⟩
  obtain ⟨k, hk⟩ : ∃ k, flipR l = k := ⟨_, rfl⟩
  obtain ⟨v2, hv2⟩ : ∃ v, findV k key = v := ⟨_, rfl⟩
  obtain ⟨y2, hy2⟩ : ∃ v, findB k key = v := ⟨_, rfl⟩
  have hkl : k.length = n := by rw [← hk, flip_len, hl]
  have E1 := Lib.hid (fun a n c W h => by have := find_any a n c l key W h hkey; rwa [hv1, hy1] at this : ∀ a n c W, RsIn W a n c l → Calls Try.prog 30 #[.slice a n c, .agg (bs key).toArray] W fun e w' => e = .returned (.tuple #[.agg v1.cells.toArray, .bool y1]) ∧ Keep [] W w')
  have E2 := Lib.hid (fun a n c W h => by have := refFind_any a n c l key W h hkey; rwa [hv1, hy1] at this : ∀ a n c W, RsIn W a n c l → Calls Try.prog 31 #[.slice a n c, .agg (bs key).toArray] W fun e w' => e = .returned (.tuple #[.agg v1.cells.toArray, .bool y1]) ∧ Keep [] W w')
  have E3 := Lib.hid (fun a n c W h => by have := find_any a n c k key W h hkey; rwa [hv2, hy2] at this : ∀ a n c W, RsIn W a n c k → Calls Try.prog 30 #[.slice a n c, .agg (bs key).toArray] W fun e w' => e = .returned (.tuple #[.agg v2.cells.toArray, .bool y2]) ∧ Keep [] W w')
  have E4 := Lib.hid (fun a n c W h => by have := refFind_any a n c k key W h hkey; rwa [hv2, hy2] at this : ∀ a n c W, RsIn W a n c k → Calls Try.prog 31 #[.slice a n c, .agg (bs key).toArray] W fun e w' => e = .returned (.tuple #[.agg v2.cells.toArray, .bool y2]) ∧ Keep [] W w')
  have OT := Lib.hid (fun W h => by have := other_any a n c l W h; rwa [hk] at this : ∀ W, RsIn W a n c l → Calls Try.prog 20 #[.slice a n c] W fun e w' => ∃ a' c', e = .returned (.slice a' n c') ∧ Sl w' 39 65 (.slice a' n c') n (cellsOf k) ∧ Fr W [] (blks (.slice a' n c')) ∧ Keep [] W w')
  have HL := Lib.hid (And.intro hl hkl)
  have b1 : (y1 != y1) = false := by cases y1 <;> rfl
  have b2 : (y2 == y2) = true := by cases y2 <;> rfl
  have q1 : ∀ w, (Op.equalIn 10000 39 (.agg v1.cells.toArray) (.agg v1.cells.toArray)).run Try.prog w = .ok true w := fun w => by rw [eql_res, decide_eq_true rfl]
  have q2 : ∀ w, (Op.equalIn 10000 39 (.agg v2.cells.toArray) (.agg v2.cells.toArray)).run Try.prog w = .ok true w := fun w => by rw [eql_res, decide_eq_true rfl]
  have z1 : v1.cells.toArray.size = 65 := by simpa using v1.len
  have z2 : v2.cells.toArray.size = 65 := by simpa using v2.len
  have HZ := Lib.hid (And.intro z1 z2)
  obtain ⟨N, hN, hso⟩ := size39
  have HN := Lib.hid hN
  obtain ⟨T, hT⟩ : ∃ T, w.heap.size = T := ⟨_, rfl⟩
  obtain ⟨W, hW⟩ : ∃ W, w.alloc (.cells (bs key).toArray 37) = W := ⟨_, rfl⟩
  have BX : Blk W T (bs key).toArray 37 := by rw [← hW, ← hT]; exact Blk.new w _ 37
  have kW : Keep [] w W := by rw [← hW]; exact (Keep.refl [] w).alloc _
  have hxW := hx.keep kW (by simp)
  have HW := Lib.hid hW
  have HT := Lib.hid hT
  have hKEY := Lib.hid hkey
  clear hv1 hy1 hk hv2 hy2 hl hkl hW hT hN z1 z2 hkey
  go_enter Try.func7, Try.ntmps7
  go_upto_region 1 with fail
  rw [HW.out, HT.out]
  go_upto_region 2 with (first
    | (go_at_call 13; refine (roomy_any a n c l _ hxW).mono ?_; rintro e w1 ⟨g, rfl, hB1, hg1, k1⟩)
    | fail)
  have hx1 := hxW.keep k1 (by simp)
  have hr1 := room_in hB1 HL.out.1 hsh
  have BX1 := BX.keep k1 (by simp)
  go_upto_region 3 with (first
    | (refine wpList_load_mid rfl 37 (.tmp 3) rfl T 0 rfl (bs key) _ (rangeAt_of_blk BX1) Try.underlying37 rfl HHI ?_)
    | (go_at_call 30; refine (E1.out _ n (n + 3) _ hr1).mono ?_; rintro e w2 ⟨rfl, k2⟩)
    | (refine wpList_store_last rfl 39 (.tmp 7) (.tmp 26) rfl _ _ v1.cells.toArray rfl rfl rfl (by rw [HZ.out.1]; rfl) (by rw [HZ.out.1]; rfl) (res_all v1) ?_)
    | fail)
  have B7 : Blk (w2.alloc (.cells v1.cells.toArray 39)) w2.heap.size v1.cells.toArray 39 := Blk.new _ _ _
  have k3 : Keep [] w1 (w2.alloc (.cells v1.cells.toArray 39)) := k2.alloc _
  obtain ⟨W3, hW3⟩ : ∃ W, w2.alloc (.cells v1.cells.toArray 39) = W := ⟨_, rfl⟩
  obtain ⟨P7, hP7⟩ : ∃ P, w2.heap.size = P := ⟨_, rfl⟩
  have p7 : w.heap.size ≤ P7 := by have := kW.size; have := k1.size; have := k2.size; omega
  have gw0 : w.heap.size ≤ g := by have := kW.size; omega
  have TP7 : T < P7 := by have := BX1.lt; have := k2.size; omega
  have TG : T ≠ g := by have := BX.lt; omega
  have p7g : P7 ≠ g := by have := hB1.lt; have := k2.size; omega
  rw [hW3] at k3 B7 ⊢
  rw [hP7] at B7 ⊢
  clear hW3 hP7 k2
  have hx3 := hx1.keep k3 (by simp)
  have BX3 := BX1.keep k3 (by simp)
  have hB3 := hB1.keep k3 (by simp)
  go_upto_region 4 with (first
    | (refine wpList_load_mid rfl 37 (.tmp 3) rfl T 0 rfl (bs key) _ (rangeAt_of_blk BX3) Try.underlying37 rfl HHI ?_)
    | (go_at_call 31; refine (E2.out _ n c _ hx3).mono ?_; rintro e w4 ⟨rfl, k4⟩)
    | (refine wpList_store_last rfl 39 (.tmp 9) (.tmp 32) rfl _ _ v1.cells.toArray rfl rfl rfl (by rw [HZ.out.1]; rfl) (by rw [HZ.out.1]; rfl) (res_all v1) ?_)
    | fail)
  have B9 : Blk (w4.alloc (.cells v1.cells.toArray 39)) w4.heap.size v1.cells.toArray 39 := Blk.new _ _ _
  have k5 : Keep [] W3 (w4.alloc (.cells v1.cells.toArray 39)) := k4.alloc _
  obtain ⟨W5, hW5⟩ : ∃ W, w4.alloc (.cells v1.cells.toArray 39) = W := ⟨_, rfl⟩
  obtain ⟨P9, hP9⟩ : ∃ P, w4.heap.size = P := ⟨_, rfl⟩
  have p9 : w.heap.size ≤ P9 ∧ P7 ≠ P9 ∧ P9 ≠ g := by have := B7.lt; have := kW.size; have := k1.size; have := k3.size; have := k4.size; have := hB3.lt; omega
  have TP9 : T < P9 := by have := BX3.lt; have := k4.size; omega
  rw [hW5] at k5 B9 ⊢
  rw [hP9] at B9 ⊢
  clear hW5 hP9 k4
  have hx5 := hx3.keep k5 (by simp)
  have BX5 := BX3.keep k5 (by simp)
  have hB5 := hB3.keep k5 (by simp)
  have B75 := B7.keep k5 (by simp)
  have kk5 := ((kW.trans' k1).trans' k3).trans' k5
  clear hx1 hx3 BX BX1 BX3 hB1 hB3 B7 hr1 hxW kW k1 k3 k5
  go_upto_region 5 with fail
  go_loopw [11, 12, 13, 14, 15] (fun v11 _ _ _ _ wr => ∃ i, i ≤ n ∧ v11 = .int .i64 (i : Nat) ∧ Keep [] W5 wr) (fun v11 _ _ _ _ _ => n - (intOf v11).toNat)
  case atStart => exact ⟨0, by omega, rfl, Keep.refl _ _⟩
  case round =>
    obtain ⟨i, hi, rfl, kk⟩ := hrel
    have hxr := hx5.keep kk (by simp)
    have hBr := hB5.keep kk (by simp)
    by_cases hlt : i < n
    · obtain ⟨x, b, off, ex, rfl, rx⟩ := hxr.at hlt
      have i0 : (0 : Int) ≤ i := by omega
      have i1 : (i : Int) < n := by omega
      rw [HN.out] at rx
      obtain ⟨u, hu⟩ : ∃ u, findV l x.act = u := ⟨_, rfl⟩
      have F1 := Lib.hid (fun a n c W h => by have := find_any a n c l x.act W h x.la; rwa [hu, find_in ex] at this : ∀ a n c W, RsIn W a n c l → Calls Try.prog 30 #[.slice a n c, .agg (bs x.act).toArray] W fun e w' => e = .returned (.tuple #[.agg u.cells.toArray, .bool true]) ∧ Keep [] W w')
      have F2 := Lib.hid (fun a n c W h => by have := refFind_any a n c l x.act W h x.la; rwa [hu, find_in ex] at this : ∀ a n c W, RsIn W a n c l → Calls Try.prog 31 #[.slice a n c, .agg (bs x.act).toArray] W fun e w' => e = .returned (.tuple #[.agg u.cells.toArray, .bool true]) ∧ Keep [] W w')
      have q3 : ∀ w, (Op.equalIn 10000 39 (.agg u.cells.toArray) (.agg u.cells.toArray)).run Try.prog w = .ok true w := fun w => by rw [eql_res, decide_eq_true rfl]
      have HU := Lib.hid (show u.cells.toArray.size = 65 by simpa using u.len)
      have hrr := room_in hBr HL.out.1 hsh
      clear hu ex
      go_upto_region 8 with (first
        | (refine wpList_load_mid rfl 37 (.tmp 45) rfl b (off + i * N) rfl (bs x.act) _ (rangeAt_act rx) Try.underlying37 rfl (hi37 x.la) ?_)
        | (go_at_call 30; refine (F1.out _ n (n + 3) _ hrr).mono ?_; rintro e w6 ⟨rfl, k6⟩)
        | (refine wpList_store_last rfl 39 (.tmp 12) (.tmp 48) rfl _ _ u.cells.toArray rfl rfl rfl (by rw [HU.out]; rfl) (by rw [HU.out]; rfl) (res_all u) ?_)
        | fail)
      have BA : Blk (w6.alloc (.cells u.cells.toArray 39)) w6.heap.size u.cells.toArray 39 := Blk.new _ _ _
      have k7 : Keep [] wr (w6.alloc (.cells u.cells.toArray 39)) := k6.alloc _
      obtain ⟨W7, hW7⟩ : ∃ W, w6.alloc (.cells u.cells.toArray 39) = W := ⟨_, rfl⟩
      obtain ⟨PA, hPA⟩ : ∃ P, w6.heap.size = P := ⟨_, rfl⟩
      rw [hW7] at k7 BA ⊢
      rw [hPA] at BA ⊢
      clear hW7 hPA k6
      have rx7 := rangeAt_keep rx k7 (by simp)
      have hx7 := hxr.keep k7 (by simp)
      go_upto_region 9 with (first
        | (refine wpList_load_mid rfl 37 (.tmp 55) rfl b (off + i * N) rfl (bs x.act) _ (rangeAt_act rx7) Try.underlying37 rfl (hi37 x.la) ?_)
        | (go_at_call 31; refine (F2.out _ n c _ hx7).mono ?_; rintro e w8 ⟨rfl, k8⟩)
        | (refine wpList_store_last rfl 39 (.tmp 14) (.tmp 58) rfl _ _ u.cells.toArray rfl rfl rfl (by rw [HU.out]; rfl) (by rw [HU.out]; rfl) (res_all u) ?_)
        | fail)
      have BB : Blk (w8.alloc (.cells u.cells.toArray 39)) w8.heap.size u.cells.toArray 39 := Blk.new _ _ _
      have k9 : Keep [] W7 (w8.alloc (.cells u.cells.toArray 39)) := k8.alloc _
      obtain ⟨W9, hW9⟩ : ∃ W, w8.alloc (.cells u.cells.toArray 39) = W := ⟨_, rfl⟩
      obtain ⟨PB, hPB⟩ : ∃ P, w8.heap.size = P := ⟨_, rfl⟩
      rw [hW9] at k9 BB ⊢
      rw [hPB] at BB ⊢
      clear hW9 hPB k8
      have rA := rangeAt_of_blk (BA.keep k9 (by simp))
      have rB := rangeAt_of_blk BB
      have kk9 := (kk.trans' k7).trans' k9
      go_wp2_with (first
        | (refine wpList_load_mid_w 39 (.tmp 12) rfl (by rfl) PA 0 rfl u.cells _ rA Try.underlying39 rfl (hi39 u) ?_)
        | (refine wpList_load_mid_w 39 (.tmp 14) rfl (by rfl) PB 0 rfl u.cells _ rB Try.underlying39 rfl (hi39 u) ?_)
        | fail)
      exact ⟨⟨i + 1, by omega, by go_num, kk9⟩, by simp [intOf]; omega⟩
    · have e : i = n := by omega
      subst e
      clear hi hlt
      have kkr := kk5.trans' kk
      have r7 := rangeAt_of_blk (B75.keep kk (by simp))
      have r9 := rangeAt_of_blk (B9.keep kk (by simp))
      go_upto_region 13 with (first
        | (refine wpList_load_mid_w 39 (.tmp 7) rfl (by rfl) P7 0 rfl v1.cells _ r7 Try.underlying39 rfl (hi39 v1) ?_)
        | (refine wpList_load_mid_w 39 (.tmp 9) rfl (by rfl) P9 0 rfl v1.cells _ r9 Try.underlying39 rfl (hi39 v1) ?_)
        | (go_at_call 19; refine (kept_eq g i c a l _ hBr HL.out.1 hxr).mono ?_; rintro e wA ⟨rfl, kA⟩)
        | fail)
      have kkA := kkr.trans' kA
      have hxA := hx.keep kkA (by simp)
      go_upto_region 14 with (first
        | (go_at_call 20; refine (OT.out _ hxA).mono ?_; rintro e wB ⟨aB, cB, rfl, sB, fB, kB⟩)
        | fail)
      have k5B := (kk.trans' kA).trans' kB
      have hBB := hB5.keep k5B (by simp)
      have hoB := RsIn.of_sl' sB HL.out.2 hsh
      have hcp := copy_room wB g i (i + 3) cB aB l k hBB HL.out.1 HL.out.2 hoB hoB.nil0
      go_upto_region 15 with (first
        | (refine wpList_copyW rfl (.tmp 83) (.tmp 84) 22 22 rfl _ _ rfl rfl hcp ?_; rintro wC ⟨hBC, kC⟩)
        | fail)
      have gA : g < wA.heap.size := by have := hBr.lt; have := kA.size; omega
      have gA7 : P7 < wA.heap.size := by have := B75.lt; have := kk.size; have := kA.size; omega
      have gA9 : P9 < wA.heap.size := by have := B9.lt; have := kk.size; have := kA.size; omega
      have sC := sB.keep kC (fun b hb => by have := fr_old fB b hb; simp only [List.mem_singleton]; omega)
      have hoC := RsIn.of_sl' sC HL.out.2 hsh
      have hrC := room_in hBC HL.out.2 hsh
      have k5C : Keep [g] W5 wC := (k5B.mono (T := [g]) (by simp)).trans kC (fun b hb => Or.inl hb)
      have BXC := BX5.keep k5C (by simp only [List.mem_singleton]; exact TG)
      have B7C := B75.keep k5C (by simp only [List.mem_singleton]; exact p7g)
      have B9C := B9.keep k5C (by simp only [List.mem_singleton]; exact p9.2.2)
      have hgw : ∀ b ∈ [g], w.heap.size ≤ b := fun b hb => by simp only [List.mem_singleton] at hb; have := HT.out; omega
      have kkC := kk5.trans k5C (fun b hb => Or.inr (hgw b hb))
      clear hcp sB sC hoB hBB hxA k5B
      go_upto_region 16 with (first
        | (refine wpList_load_mid rfl 37 (.tmp 3) rfl T 0 rfl (bs key) _ (rangeAt_of_blk BXC) Try.underlying37 rfl HHI ?_)
        | (go_at_call 30; refine (E3.out _ i (i + 3) _ hrC).mono ?_; rintro e wD ⟨rfl, kD⟩; have B7D := B7C.keep kD (by simp))
        | (refine wpList_store_row rfl 39 (.tmp 7) (.tmp 90) rfl P7 v2.cells.toArray rfl rfl 39 v1.cells.toArray B7D (by rw [HZ.out.2]; rfl) (by rw [HZ.out.2, HZ.out.1]) (res_all v2) ?_)
        | fail)
      have B7E := B7D.setRow v2.cells.toArray
      have kE : Keep [P7] wC (wD.setRow P7 v2.cells.toArray) := (kD.mono (T := [P7]) (by simp)).setRow (Or.inl (by simp)) _
      obtain ⟨WE, hWE⟩ : ∃ W, wD.setRow P7 v2.cells.toArray = W := ⟨_, rfl⟩
      rw [hWE] at B7E kE ⊢
      clear hWE kD
      have BXE := BXC.keep kE (by simp only [List.mem_singleton]; omega)
      have hoE := hoC.keep kE (fun e => ablk_ne hoC e fB gA7)
      have B9E := B9C.keep kE (by simp only [List.mem_singleton]; have := p9; omega)
      have hBE := hBC.keep kE (by simp only [List.mem_singleton]; omega)
      go_upto_region 17 with (first
        | (refine wpList_load_mid rfl 37 (.tmp 3) rfl T 0 rfl (bs key) _ (rangeAt_of_blk BXE) Try.underlying37 rfl HHI ?_)
        | (go_at_call 31; refine (E4.out _ i cB _ hoE).mono ?_; rintro e wF ⟨rfl, kF⟩; have B9F := B9E.keep kF (by simp))
        | (refine wpList_store_row rfl 39 (.tmp 9) (.tmp 96) rfl P9 v2.cells.toArray rfl rfl 39 v1.cells.toArray B9F (by rw [HZ.out.2]; rfl) (by rw [HZ.out.2, HZ.out.1]) (res_all v2) ?_)
        | fail)
      have B9G := B9F.setRow v2.cells.toArray
      have kG : Keep [P9] WE (wF.setRow P9 v2.cells.toArray) := (kF.mono (T := [P9]) (by simp)).setRow (Or.inl (by simp)) _
      obtain ⟨WG, hWG⟩ : ∃ W, wF.setRow P9 v2.cells.toArray = W := ⟨_, rfl⟩
      rw [hWG] at B9G kG ⊢
      clear hWG kF
      have r7G := rangeAt_of_blk (B7E.keep kG (by simp only [List.mem_singleton]; have := p9; omega))
      have r9G := rangeAt_of_blk B9G
      have hoG := hoE.keep kG (fun e => ablk_ne hoE e fB gA9)
      have hBG := hBE.keep kG (by simp only [List.mem_singleton]; have := p9; omega)
      have kkG := (kkC.trans kE (fun b hb => Or.inr (by simp only [List.mem_singleton] at hb; omega))).trans kG (fun b hb => Or.inr (by simp only [List.mem_singleton] at hb; have := p9; omega))
      go_wp2_with (first
        | (refine wpList_load_mid_w 39 (.tmp 7) rfl (by rfl) P7 0 rfl v2.cells _ r7G Try.underlying39 rfl (hi39 v2) ?_)
        | (refine wpList_load_mid_w 39 (.tmp 9) rfl (by rfl) P9 0 rfl v2.cells _ r9G Try.underlying39 rfl (hi39 v2) ?_)
        | (go_at_call 19; refine (kept_eq g i cB aB k _ hBG HL.out.2 hoG).mono ?_; rintro e wH ⟨rfl, kH⟩)
        | (go_at_call 21; refine (awake_any _).mono ?_; rintro e wI ⟨rfl, kI⟩)
        | fail)
      go_returns
      exact ⟨rfl, (kkG.trans' kH).trans' kI⟩
end Go.Proofs.Ytjdkeabimcajlaa

/- The reference's Of. -/
import Derived.Test.YtpocegdlobnhaaaIb
import Derived.Test.YtpocegdlobnhaaaDU
set_option linter.unusedVariables false
set_option linter.unusedSimpArgs false
set_option maxRecDepth 100000
namespace Go.Proofs.Ytpocegdlobnhaaa.Dig
open Go.RowKit

set_option maxHeartbeats 4000000 in
set_option maxRecDepth 100000 in
theorem refOf_any (width : Int) (xs : List UInt8) (n cap : Nat) (pa : Option Addr) (w : World) (hx : InBytes w pa n cap xs) (hn : n + 128 ≤ 140737488355328) :
    Calls Try.prog 28 #[.int .i64 width, .slice pa n cap] w fun e w' => e = .returned (.agg (bs (shaId width xs)).toArray) ∧ Keep [] w w' := by
  go_enter Try.func28, Try.ntmps28
  go_upto_region 1 with fail
  go_cut [4, 5] (fun v4 v5 wc => ∃ R I, v4 = .pointer (some ⟨R, 0, none⟩) ∧ v5 = .pointer (some ⟨I, 0, none⟩) ∧ R < I ∧ w.heap.size ≤ R ∧ Blk wc R (bs (List.replicate 32 0)).toArray 26 ∧ Blk wc I (bs (List.replicate 32 0)).toArray 26 ∧ Keep [] w wc)
  case first =>
    go_wp2_with fail
    go_meet
    case rel => exact ⟨_, _, rfl, rfl, by omega, Nat.le_refl _, (Blk.new w _ 26).alloc _, by refine Blk.new' _ _ _ ?_; simp, ((Keep.refl [] w).alloc _).alloc _⟩
  case rest =>
    obtain ⟨R, I, rfl, rfl, hRI, hRw, hBR, hBI, hk⟩ := hcut
    have hIw : w.heap.size ≤ I := by omega
    have hne : R ≠ I := by omega
    by_cases hout : width < 1 ∨ 32 < width
    · have hid : shaId width xs = List.replicate 32 0 := by rw [shaId, if_pos hout]
      have HID := Lib.hid hid
      have t2 : width < 1 ∨ (¬ width < 1 ∧ 32 < width) := by omega
      clear hid hout
      have hallz := bs_all (List.replicate 32 0)
      rcases t2 with g1 | ⟨g1, g2⟩
      · go_wp2_with (first
          | (refine wpList_load_row rfl 26 (.tmp 5) rfl I rfl 26 (bs (List.replicate 32 0)).toArray (0, 0) _ hBI Try.underlying26 rfl rfl ?_)
          | (refine wpList_store_row rfl 26 (.tmp 4) (.tmp 14) rfl R (bs (List.replicate 32 0)).toArray rfl rfl 26 (bs (List.replicate 32 0)).toArray hBR rfl rfl hallz ?_)
          | fail)
        exact bodyPost_ret (results_cell_row rfl _ _ R 26 (bs (List.replicate 32 0)).toArray (0, 0) _ rfl (hBR.setRow _) Try.underlying26 rfl rfl) rfl ⟨by rw [HID.out], hk.setRow (Or.inr hRw) _⟩
      · go_wp2_with (first
          | (refine wpList_load_row rfl 26 (.tmp 5) rfl I rfl 26 (bs (List.replicate 32 0)).toArray (0, 0) _ hBI Try.underlying26 rfl rfl ?_)
          | (refine wpList_store_row rfl 26 (.tmp 4) (.tmp 14) rfl R (bs (List.replicate 32 0)).toArray rfl rfl 26 (bs (List.replicate 32 0)).toArray hBR rfl rfl hallz ?_)
          | fail)
        exact bodyPost_ret (results_cell_row rfl _ _ R 26 (bs (List.replicate 32 0)).toArray (0, 0) _ rfl (hBR.setRow _) Try.underlying26 rfl rfl) rfl ⟨by rw [HID.out], hk.setRow (Or.inr hRw) _⟩
    · obtain ⟨k, hkw⟩ : ∃ k : Nat, width = k := ⟨width.toNat, by omega⟩
      subst hkw
      have hid : shaId (k : Int) xs = upTo (sha xs) k := by rw [shaId, if_neg hout]; rfl
      obtain ⟨D, hD⟩ : ∃ D, sha xs = D := ⟨_, rfl⟩
      have hDl : D.length = 32 := by rw [← hD]; exact sha_length _
      have hfull := refFull_any xs n cap pa _ (hx.keep hk (by simp)) hn
      rw [hD] at hfull hid
      have HID := Lib.hid hid
      have g1 : ¬ (k : Int) < 1 := by omega
      have g2 : ¬ 32 < (k : Int) := by omega
      have hk1 : k ≤ 32 := by omega
      have HDL := Lib.hid hDl
      have HSZ := Lib.hid (size32 D hDl)
      have HF := Lib.hid hfull
      clear hid hout hD hDl hfull
      go_upto_region 5 with (first
        | (go_at_call 53; refine HF.out.mono ?_; rintro e w3 ⟨rfl, hk3⟩)
        | (refine wpList_store_last rfl 25 (.tmp 6) (.tmp 16) rfl _ _ (bs D).toArray rfl rfl rfl (by rw [HSZ.out]; rfl) (by rw [HSZ.out]; rfl) (bs_all D) ?_)
        | fail)
      have hB5 : Blk (w3.alloc (.cells (bs D).toArray 25)) I (bs (List.replicate 32 0)).toArray 26 := (hBI.keep hk3 (by simp)).alloc _
      have hR5 : Blk (w3.alloc (.cells (bs D).toArray 25)) R (bs (List.replicate 32 0)).toArray 26 := (hBR.keep hk3 (by simp)).alloc _
      have hF5 : Blk (w3.alloc (.cells (bs D).toArray 25)) w3.heap.size (bs D).toArray 25 := Blk.new w3 _ 25
      have hk5 : Keep [] w (w3.alloc (.cells (bs D).toArray 25)) := (hk.trans' hk3).alloc _
      have f1 : w3.heap.size ≠ I := by have := (hBI.keep hk3 (by simp)).lt; omega
      obtain ⟨W5, hW5⟩ : ∃ W, w3.alloc (.cells (bs D).toArray 25) = W := ⟨_, rfl⟩
      obtain ⟨F, hF⟩ : ∃ F, w3.heap.size = F := ⟨_, rfl⟩
      rw [hF] at hF5 f1 ⊢
      rw [hW5] at hB5 hR5 hF5 hk5 ⊢
      clear hF hW5 hBI hBR hk HF hk3
      go_wp2_with fail
      go_loopw [7] (fun v wx => ∃ i, i ≤ k ∧ v = .int .i64 (i : Nat) ∧ Blk wx R (bs (List.replicate 32 0)).toArray 26 ∧ Blk wx I (bs (upTo D i)).toArray 26 ∧ Blk wx F (bs D).toArray 25 ∧ Keep [] w wx) (fun v _ => 32 - (intOf v).toNat)
      case atStart => exact ⟨0, by omega, rfl, hR5, by rw [upTo_none, HDL.out]; exact hB5, hF5, hk5⟩
      case round =>
        clear hR5 hB5 hF5 hk5
        obtain ⟨i, hi, rfl, BR, BI, BF, kk⟩ := hrel
        by_cases hlt : i < k
        · have h32 := HDL.out
          obtain ⟨d, hd⟩ : ∃ d, D[i]? = some d := ⟨_, List.getElem?_eq_getElem (by omega)⟩
          have ul : (upTo D i).length = 32 := by rw [upTo_length _ (by omega), h32]
          obtain ⟨y, ey⟩ : ∃ x, (upTo D i)[i]? = some x := ⟨_, List.getElem?_eq_getElem (by rw [ul]; omega)⟩
          have cF : wr.cell? ⟨F, i, none⟩ = some (B8 d) := BF.cell (by simp [bs, hd])
          have cI : wr.cell? ⟨I, i, none⟩ = some (B8 y) := BI.cell (by simp [bs, ey])
          have fI := BI.free (i := i)
          have u1 : (i : Int) < 32 := by omega
          have u2 : (i : Int) < k := by omega
          have HD := Lib.hid hd
          clear h32 hd ul ey
          go_wp2_with fail
          refine ⟨⟨i + 1, by omega, by go_num, BR.setOther (by simpa using hne) _, ?_, BF.setOther (by simpa using f1) _, kk.set (Or.inr hIw) _⟩, by simp [intOf]; omega⟩
          have := BI.set i (B8 d)
          rw [← bs_set, upTo_set HD.out] at this
          exact this
        · obtain rfl : i = k := by omega
          have hszu : (bs (upTo D i)).toArray.size = 32 := size32 _ (by have := HDL.out; rw [upTo_length _ (by omega), this])
          have hallu := bs_all (upTo D i)
          go_wp2_with (first
            | (refine wpList_load_row rfl 26 (.tmp 5) rfl I rfl 26 (bs (upTo D i)).toArray (0, 0) _ BI Try.underlying26 rfl (by rw [hszu]; rfl) ?_)
            | (refine wpList_store_row rfl 26 (.tmp 4) (.tmp 27) rfl R (bs (upTo D i)).toArray rfl rfl 26 (bs (List.replicate 32 0)).toArray BR (by rw [hszu]; rfl) (by rw [hszu]; rfl) hallu ?_)
            | fail)
          exact bodyPost_ret (results_cell_row rfl _ _ R 26 (bs (upTo D i)).toArray (0, 0) _ rfl (BR.setRow _) Try.underlying26 rfl (by rw [hszu]; rfl)) rfl ⟨by rw [HID.out], kk.setRow (Or.inr hRw) _⟩
end Go.Proofs.Ytpocegdlobnhaaa.Dig

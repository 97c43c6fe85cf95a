/- Of: the id of a width and pieces. -/
import Derived.Test.YtpocegdlobnhaaaIb
import Derived.Test.YtpocegdlobnhaaaDF
set_option linter.unusedVariables false
set_option linter.unusedSimpArgs false
set_option maxRecDepth 100000
namespace Go.Proofs.Ytpocegdlobnhaaa.Dig
open Go.RowKit

/-- The id of a width and a message. -/
def shaId (width : Int) (d : List UInt8) : List UInt8 := if width < 1 ∨ 32 < width then List.replicate 32 0 else upTo (sha d) width.toNat
theorem shaId_length (width : Int) (d : List UInt8) : (shaId width d).length = 32 := by
  unfold shaId
  split
  · simp
  · rw [upTo_length _ (by rw [sha_length]; omega), sha_length]
theorem size32 (l : List UInt8) (h : l.length = 32) : (bs l).toArray.size = 32 := by simp [h]
theorem bs_all (l : List UInt8) : (bs l).toArray.all (·.oneCell') = true := all_oneCell_toArray (bs_one _)

set_option maxHeartbeats 4000000 in
set_option maxRecDepth 100000 in
theorem of_any (width : Int) (pp : Option Addr) (n cap : Nat) (vs : List Value) (xss : List (List UInt8)) (w : World) (hR : RowsAt w pp n vs xss) (hn : n ≤ 9223372036854775807) :
    Calls Try.prog 43 #[.int .i64 width, .slice pp n cap] w fun e w' => e = .returned (.agg (bs (shaId width xss.flatten)).toArray) ∧ Keep [] w w' := by
  go_enter Try.func43, Try.ntmps43
  go_upto_region 1 with fail
  go_cut [4, 5] (fun v4 v5 wc => ∃ R I, v4 = .pointer (some ⟨R, 0, none⟩) ∧ v5 = .pointer (some ⟨I, 0, none⟩) ∧ R < I ∧ w.heap.size ≤ R ∧ Blk wc R (bs (List.replicate 32 0)).toArray 26 ∧ Blk wc I (bs (List.replicate 32 0)).toArray 26 ∧ Keep [] w wc)
  case first =>
    go_wp2_with fail
    go_meet
    case rel => exact ⟨_, _, rfl, rfl, by omega, Nat.le_refl _, (Blk.new w _ 26).alloc _, by refine Blk.new' _ _ _ ?_; simp, ((Keep.refl [] w).alloc _).alloc _⟩
  case rest =>
    obtain ⟨R, I, rfl, rfl, hRI, hRw, hBR, hBI, hk⟩ := hcut
    have hIw : w.heap.size ≤ I := by omega
    have hne : R ≠ I := by omega
    have hz32 : (bs (List.replicate 32 0)).toArray.size = 32 := rfl
    by_cases hout : width < 1 ∨ 32 < width
    · have hid : shaId width xss.flatten = List.replicate 32 0 := by rw [shaId, if_pos hout]
      have HID := Lib.hid hid
      have t1 : (decide (width < 1) || decide (width > 32)) = true := by simpa using hout
      have t2 : decide (width < 1) = true ∨ (decide (width < 1) = false ∧ decide (32 < width) = true) := by
        rcases hout with h | h
        · exact Or.inl (by simpa using h)
        · by_cases h1 : width < 1
          · exact Or.inl (by simpa using h1)
          · exact Or.inr ⟨by simpa using h1, by simpa using h⟩
      clear hid
      have hallz := bs_all (List.replicate 32 0)
      rcases t2 with t | ⟨t, t'⟩
      · have g1 : width < 1 := by simpa using t
        clear hout t1 t
        go_wp2_with (first
          | (refine wpList_load_row rfl 26 (.tmp 5) rfl I rfl 26 (bs (List.replicate 32 0)).toArray (0, 0) _ hBI Try.underlying26 rfl rfl ?_)
          | (refine wpList_store_row rfl 26 (.tmp 4) (.tmp 13) rfl R (bs (List.replicate 32 0)).toArray rfl rfl 26 (bs (List.replicate 32 0)).toArray hBR rfl rfl hallz ?_)
          | fail)
        exact bodyPost_ret (results_cell_row rfl _ _ R 26 (bs (List.replicate 32 0)).toArray (0, 0) _ rfl (hBR.setRow _) Try.underlying26 rfl rfl) rfl ⟨by rw [HID.out], hk.setRow (Or.inr hRw) _⟩
      · have g1 : ¬ width < 1 := by simpa using t
        have g2 : 32 < width := by simpa using t'
        clear hout t1 t t'
        go_wp2_with (first
          | (refine wpList_load_row rfl 26 (.tmp 5) rfl I rfl 26 (bs (List.replicate 32 0)).toArray (0, 0) _ hBI Try.underlying26 rfl rfl ?_)
          | (refine wpList_store_row rfl 26 (.tmp 4) (.tmp 13) rfl R (bs (List.replicate 32 0)).toArray rfl rfl 26 (bs (List.replicate 32 0)).toArray hBR rfl rfl hallz ?_)
          | fail)
        exact bodyPost_ret (results_cell_row rfl _ _ R 26 (bs (List.replicate 32 0)).toArray (0, 0) _ rfl (hBR.setRow _) Try.underlying26 rfl rfl) rfl ⟨by rw [HID.out], hk.setRow (Or.inr hRw) _⟩
    · obtain ⟨k, hkw⟩ : ∃ k : Nat, width = k := ⟨width.toNat, by omega⟩
      subst hkw
      have hid : shaId (k : Int) xss.flatten = upTo (sha xss.flatten) k := by rw [shaId, if_neg hout]; rfl
      obtain ⟨D, hD⟩ : ∃ D, sha xss.flatten = D := ⟨_, rfl⟩
      have hDl : D.length = 32 := by rw [← hD]; exact sha_length _
      have hfull := full_any pp n cap vs xss _ (hR.keep hk) hn
      rw [hD] at hfull hid
      have HID := Lib.hid hid
      have g1 : ¬ (k : Int) < 1 := by omega
      have g2 : ¬ 32 < (k : Int) := by omega
      have g3 : (0 : Int) ≤ k := by omega
      have g4 : (k : Int) ≤ 32 := by omega
      have hk1 : k ≤ 32 := by omega
      have hsz : (bs D).toArray.size = 32 := size32 D hDl
      have hall := bs_all D
      have hallu := bs_all (upTo D k)
      have hszu : (bs (upTo D k)).toArray.size = 32 := size32 _ (by rw [upTo_length _ (by omega), hDl])
      have HDL := Lib.hid hDl
      have HALL := Lib.hid hall
      have HALLU := Lib.hid hallu
      have HSZ := Lib.hid hsz
      have HSZU := Lib.hid hszu
      clear hid hout hD hDl hall hallu hsz hszu
      go_wp2_with (first
        | (go_at_call 73; refine hfull.mono ?_; rintro e w3 ⟨rfl, hk3⟩)
        | (refine wpList_store_last rfl 25 (.tmp 6) (.tmp 15) rfl _ _ (bs D).toArray rfl rfl rfl (by rw [HSZ.out]; rfl) (by rw [HSZ.out]; rfl) HALL.out ?_)
        | fail)
      have hB5 : Blk (w3.alloc (.cells (bs D).toArray 25)) I (bs (List.replicate 32 0)).toArray 26 := (hBI.keep hk3 (by simp)).alloc _
      have hR5 : Blk (w3.alloc (.cells (bs D).toArray 25)) R (bs (List.replicate 32 0)).toArray 26 := (hBR.keep hk3 (by simp)).alloc _
      have hF5 : Blk (w3.alloc (.cells (bs D).toArray 25)) w3.heap.size (bs D).toArray 25 := Blk.new w3 _ 25
      have hk5 : Keep [] w (w3.alloc (.cells (bs D).toArray 25)) := (hk.trans' hk3).alloc _
      have hcl : (D.take k).length = k := by rw [List.length_take, HDL.out]; omega
      have hrd5 : Rd (w3.alloc (.cells (bs D).toArray 25)) (some ⟨w3.heap.size, 0, none⟩) (bs (D.take k)) := Rd.of_blk hF5 0 (fun j v hv => by
        rw [Nat.zero_add]
        rw [bs, List.map_take, List.getElem?_take] at hv
        split at hv
        · exact hv
        · cases hv)
      have hmin : min 32 k = k := by omega
      have hmin' : min k 32 = k := by omega
      have HCL := Lib.hid hcl
      clear hcl hR hfull
      go_region_law (refine step_copyB rfl (.tmp 17) (.tmp 18) 22 22 rfl 5 Try.underlying22 size5 (some ⟨I, 0, none⟩) (some ⟨w3.heap.size, 0, none⟩) k 32 32 32 rfl rfl I 0 (bs (List.replicate 32 0)) 26 hB5 (bs (D.take k)) (by rw [bs_length, HCL.out]; exact hmin.symm) (fun _ => rfl) hrd5 (by rw [bs_length, HCL.out]; simp; omega) (bs_one _) ?_; intro w6 hB6 hk6)
      have hB7 : Blk w6 I (bs (upTo D k)).toArray 26 := by
        have := hB6.out
        rw [bs_length, HCL.out, List.take_zero, List.nil_append, Nat.zero_add] at this
        have e : bs (D.take k) ++ (bs (List.replicate 32 0)).drop k = bs (upTo D k) := by
          rw [upTo, HDL.out, bs_append]; congr 1; rw [bs, bs, ← List.map_drop, List.drop_replicate]
        rwa [e] at this
      have hR7 : Blk w6 R (bs (List.replicate 32 0)).toArray 26 := (hR5.drew).keep hk6 (by simpa using hne)
      have hk7 : Keep [] w w6 := (hk5.drew).trans hk6 (by simpa using hIw)
      go_wp2_with (first
        | (refine wpList_load_row rfl 26 (.tmp 5) rfl I rfl 26 (bs (upTo D k)).toArray (0, 0) _ hB7 Try.underlying26 rfl (by rw [HSZU.out]; rfl) ?_)
        | (refine wpList_store_row rfl 26 (.tmp 4) (.tmp 20) rfl R (bs (upTo D k)).toArray rfl rfl 26 (bs (List.replicate 32 0)).toArray hR7 (by rw [HSZU.out]; rfl) (by rw [HSZU.out]; rfl) HALLU.out ?_)
        | fail)
      exact bodyPost_ret (results_cell_row rfl _ _ R 26 (bs (upTo D k)).toArray (0, 0) _ rfl (hR7.setRow _) Try.underlying26 rfl (by rw [HSZU.out]; rfl)) rfl ⟨by rw [HID.out], hk7.setRow (Or.inr hRw) _⟩
end Go.Proofs.Ytpocegdlobnhaaa.Dig

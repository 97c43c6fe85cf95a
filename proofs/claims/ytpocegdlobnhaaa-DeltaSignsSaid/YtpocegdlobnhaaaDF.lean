/- Full and Of: the digest of pieces, one behind the other; the id of a width. -/
import Derived.Test.YtpocegdlobnhaaaIb
import Derived.Test.YtpocegdlobnhaaaDE
import Derived.Test.YtpocegdlobnhaaaOpen
set_option linter.unusedVariables false
set_option linter.unusedSimpArgs false
set_option maxRecDepth 100000
namespace Go.Proofs.Ytpocegdlobnhaaa.Dig
open Go.RowKit

/-- A slice's cells are rows of bytes. -/
structure RowsAt (w : World) (pp : Option Addr) (n : Nat) (vs : List Value) (xss : List (List UInt8)) : Prop where
  vlen : vs.length = n
  xlen : xss.length = n
  rd : Rd w pp vs
  each : ∀ i (h : i < xss.length), ∃ a l c, vs[i]? = some (.slice a l c) ∧ InBytes w a l c xss[i]
theorem RowsAt.keep {w w' : World} {pp : Option Addr} {n : Nat} {vs : List Value} {xss : List (List UInt8)} (h : RowsAt w pp n vs xss) (k : Keep [] w w') : RowsAt w' pp n vs xss :=
  ⟨h.vlen, h.xlen, h.rd.keep k (by simp), fun i hi => by
    obtain ⟨a, l, c, h1, h2⟩ := h.each i hi
    exact ⟨a, l, c, h1, h2.keep k (by simp)⟩⟩

/-- The zero value of a Hash, its cells under one name. -/
theorem zeroHash : ∃ Z : Array Value, (∀ w, (zeroValue 161).run Try.prog w = .ok (.agg Z) w) ∧ ∀ w C, Blk w C Z 161 → HashAt w C [] :=
  ⟨_, zero53, fun w C h => ⟨false, _, _, 0, 0, h, Took.zero'⟩⟩

set_option maxHeartbeats 4000000 in
set_option maxRecDepth 100000 in
theorem full_any (pp : Option Addr) (n cap : Nat) (vs : List Value) (xss : List (List UInt8)) (w : World) (hR : RowsAt w pp n vs xss) (hn : n ≤ 9223372036854775807) :
    Calls Try.prog 73 #[.slice pp n cap] w fun e w' => e = .returned (.agg (bs (sha xss.flatten)).toArray) ∧ Keep [] w w' := by
  obtain ⟨Z, hz, hZ⟩ := zeroHash
  go_enter Try.func73, Try.ntmps73
  obtain ⟨R, hRR⟩ : ∃ R, R = w.heap.size := ⟨_, rfl⟩
  obtain ⟨C, hCC⟩ : ∃ C, C = w.heap.size + 1 := ⟨_, rfl⟩
  have hRC : R ≠ C := by omega
  have hRw : w.heap.size ≤ R := by omega
  have hCw : w.heap.size ≤ C := by omega
  go_wp2_with fail
  rw [← hCC, ← hRR]
  have hn' := hR.xlen
  go_loopw [8] (fun v wr => ∃ k, k ≤ n ∧ v = .int .i64 (k : Nat) ∧ HashAt wr C (xss.take k).flatten ∧ Blk wr R (bs (List.replicate 32 0)).toArray 25 ∧ Keep [] w wr) (fun v _ => n - (intOf v).toNat)
  case atStart => exact ⟨0, by omega, rfl, hZ _ _ (by rw [hCC]; exact Blk.new' _ _ 161 (by simp)), by rw [hRR]; exact (Blk.new w _ 25).alloc _, ((Keep.refl [] w).alloc _).alloc _⟩
  case round =>
    obtain ⟨k, hk, rfl, hH, hBR, hkr⟩ := hrel
    clear hRR hCC hz hZ
    by_cases hlt : k < n
    · obtain ⟨x, hx⟩ : ∃ x, xss[k]? = some x := ⟨_, List.getElem?_eq_getElem (by omega)⟩
      obtain ⟨a, l, c, hv, hb0⟩ := hR.each k (by omega)
      have hxe : xss[k]'(by omega) = x := by
        rw [List.getElem?_eq_getElem (by omega)] at hx; exact Option.some.inj hx
      rw [hxe] at hb0
      have hb : InBytes wr a l c x := hb0.keep hkr (by simp)
      have hab : x ≠ [] → ablk a ≠ C := fun hne => by have := hb0.blk hne; omega
      obtain ⟨b, off, rfl, hc⟩ := (hR.keep hkr).rd.at (k := k) (by rw [hR.vlen]; exact hlt)
      have hvk : vs[k]'(by rw [hR.vlen]; exact hlt) = .slice a l c := by
        rw [List.getElem?_eq_getElem (by rw [hR.vlen]; exact hlt)] at hv
        exact Option.some.inj hv
      rw [hvk] at hc
      have hxk : (xss.take (k + 1)).flatten = (xss.take k).flatten ++ x := by
        have : xss.take (k + 1) = xss.take k ++ [x] := by rw [List.take_add_one, hx]; rfl
        rw [this, List.flatten_append]; simp
      have u1 : (k : Int) < n := by omega
      have HV := Lib.hid hv
      have HVK := Lib.hid hvk
      have HX := Lib.hid hxk
      have HN := Lib.hid hn'
      clear hv hvk hxk hn' hxe hx hb0
      have hc63 : c ≤ 9223372036854775807 := hb.reach
      have hw3 := write_any C (xss.take k).flatten x l c a wr hH hb.hlen hb.hle hc63 hb.rd hab
      go_wp2_with (first | (go_at_call 102; refine hw3.mono ?_; rintro e w3 ⟨rfl, hH3, hk3⟩) | fail)
      exact ⟨⟨k + 1, by omega, by go_num, by rw [HX.out]; exact hH3, hBR.keep hk3 (by simpa using hRC), hkr.trans hk3 (by simpa using hCw)⟩, by simp [intOf]; omega⟩
    · obtain rfl : k = n := by omega
      rw [List.take_of_length_le (by omega)] at hH
      have hsz : (bs (sha xss.flatten)).toArray.size = 32 := by simp [sha_length]
      have hall1 : (bs (sha xss.flatten)).toArray.all (·.oneCell') = true := all_oneCell_toArray (bs_one _)
      have HN := Lib.hid hn'
      have hsum := sum_any (some ⟨C, 0, none⟩) xss.flatten wr (Or.inr ⟨C, rfl, hH⟩)
      clear hn'
      go_wp2_with (first
        | (go_at_call 103; refine hsum.mono ?_; rintro e w3 ⟨rfl, hk3⟩
           have hB3 := hBR.keep hk3 (by simp))
        | (refine wpList_store_row rfl 25 (.tmp 2) (.tmp 15) rfl R (bs (sha xss.flatten)).toArray rfl rfl 25 (bs (List.replicate 32 0)).toArray hB3 (by rw [hsz]; rfl) (by rw [hsz]; rfl) hall1 ?_)
        | fail)
      exact bodyPost_ret (results_cell_row rfl _ _ R 25 (bs (sha xss.flatten)).toArray (0, 0) _ rfl (hB3.setRow _) Try.underlying25 rfl (by rw [hsz]; rfl)) rfl ⟨rfl, (hkr.trans' hk3).setRow (Or.inr hRw) _⟩
end Go.Proofs.Ytpocegdlobnhaaa.Dig

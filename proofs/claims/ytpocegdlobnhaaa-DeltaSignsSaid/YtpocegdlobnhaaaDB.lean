/- (*Hash).turn: the compression of the block into the state. -/
import Derived.Test.YtpocegdlobnhaaaIb
import Derived.Test.YtpocegdlobnhaaaDBt
set_option linter.unusedVariables false
set_option linter.unusedSimpArgs false
set_option maxRecDepth 100000
namespace Go.Proofs.Ytpocegdlobnhaaa.Dig
open Go.RowKit

set_option maxHeartbeats 16000000 in
set_option maxRecDepth 100000 in
theorem turn_any (S : List Int) (hb : Nat) (st : List Int) (bl : List UInt8) (hv tot : Int) (w : World) (h : Blk w hb (hashCells true st bl hv tot) 161) (hst : st.length = 8) (hbl : bl.length = 64) (hSch : Sched bl S) :
    Calls Try.prog 117 #[.pointer (some ⟨hb, 0, none⟩)] w fun e w' => e = .returned (.tuple #[]) ∧ Blk w' hb (hashCells true (compS S st) bl hv tot) 161 ∧ Keep [hb] w w' := by
  have HS := Lib.hid hst
  have HB := Lib.hid hbl
  clear hst hbl
  go_enter Try.func117, Try.ntmps117
  go_wp2_with fail
  go_loopw [15] (fun i wr => ∃ (k : Nat) (ws : List Int), k ≤ 16 ∧ i = .int .i64 k ∧ ws.length = 64 ∧ Blk wr w.heap.size (u32s ws).toArray 149 ∧ (∀ j, j < k → ws[j]? = some (wordAt bl j)) ∧ Keep [] w wr) (fun i _ => 16 - (intOf i).toNat)
  case atStart => exact ⟨0, List.replicate 64 0, by omega, rfl, by simp, by have := Blk.new w (u32s (List.replicate 64 0)).toArray 149; exact this, fun j hj => absurd hj (by omega), (Keep.refl _ _).alloc _⟩
  case round =>
    obtain ⟨k, ws, hk, rfl, hws, hbw, hall, hkr⟩ := hrel
    have hblt := h.lt
    by_cases hlt : k < 16
    · have hb' := h.keep hkr (by simp)
      obtain ⟨x0, e0⟩ : ∃ x, bl[4 * k]? = some x := ⟨_, List.getElem?_eq_getElem (by rw [HB.out]; omega)⟩
      obtain ⟨x1, e1⟩ : ∃ x, bl[4 * k + 1]? = some x := ⟨_, List.getElem?_eq_getElem (by rw [HB.out]; omega)⟩
      obtain ⟨x2, e2⟩ : ∃ x, bl[4 * k + 2]? = some x := ⟨_, List.getElem?_eq_getElem (by rw [HB.out]; omega)⟩
      obtain ⟨x3, e3⟩ : ∃ x, bl[4 * k + 3]? = some x := ⟨_, List.getElem?_eq_getElem (by rw [HB.out]; omega)⟩
      have c0 := hb'.cell (hash_byte HS.out e0)
      have c1 := hb'.cell (hash_byte HS.out e1)
      have c2 := hb'.cell (hash_byte HS.out e2)
      have c3 := hb'.cell (hash_byte HS.out e3)
      obtain ⟨wk, ew⟩ : ∃ x, ws[k]? = some x := ⟨_, List.getElem?_eq_getElem (by rw [hws]; omega)⟩
      have cw : wr.cell? ⟨w.heap.size, k, none⟩ = some (.int .u32 wk) := hbw.cell (by simp [u32s, ew])
      have fw := hbw.free (i := k)
      have HE : Hid (wordAt bl k = be4 x0 x1 x2 x3) := by
        show _ = _
        rw [wordAt, getD_some e0, getD_some e1, getD_some e2, getD_some e3]
      have HW := Lib.hid hws
      have HA := Lib.hid hall
      clear hws e0 e1 e2 e3 ew hall
      go_wp2_with fail
      go_region
      go_wp2
      refine ⟨⟨k + 1, ws.set k (be4 x0 x1 x2 x3), by omega, by go_num, by rw [List.length_set]; exact HW.out, ?_, ?_, ?_⟩, by simp [intOf]; omega⟩
      · have := hbw.set k (.int .u32 (be4 x0 x1 x2 x3))
        have e : (u32s (ws.set k (be4 x0 x1 x2 x3))).toArray = (u32s ws).toArray.setIfInBounds k (.int .u32 (be4 x0 x1 x2 x3)) := by
          apply Array.ext'; simp [u32s, List.map_set]
        rw [e]; exact this
      · intro j hj
        by_cases hjk : j = k
        · subst hjk; rw [List.getElem?_set_self (by rw [HW.out]; omega), HE.out]
        · rw [List.getElem?_set_ne (by omega)]; exact HA.out j (by omega)
      · exact (hkr.set (Or.inr (Nat.le_refl _)) _).drew
    · have hki : (k : Int) = 16 := by omega
      simp only [hki]
      obtain rfl : k = 16 := by omega
      clear hki
      clear hlt
      go_wp2
      go_loopw [4] (fun i wx => ∃ (t : Nat) (ws : List Int), 16 ≤ t ∧ t ≤ 64 ∧ i = .int .i64 t ∧ ws.length = 64 ∧ Blk wx w.heap.size (u32s ws).toArray 149 ∧ (∀ j, j < t → ws[j]? = some (S.getD j 0)) ∧ Keep [] w wx) (fun i _ => 64 - (intOf i).toNat)
      case atStart => exact ⟨16, ws, by omega, by omega, rfl, hws, hbw, fun j hj => by rw [hall j hj, hSch.first j hj], hkr⟩
      case round =>
        clear hbw hall hws hkr
        obtain ⟨t, ws, ht1, ht2, rfl, hws, hbw, hall, hkr⟩ := hrel
        by_cases hlt : t < 64
        · obtain ⟨x2, e2⟩ : ∃ x, S.getD (t - 2) 0 = x := ⟨_, rfl⟩
          obtain ⟨x7, e7⟩ : ∃ x, S.getD (t - 7) 0 = x := ⟨_, rfl⟩
          obtain ⟨x15, e15⟩ : ∃ x, S.getD (t - 15) 0 = x := ⟨_, rfl⟩
          obtain ⟨x16, e16⟩ : ∃ x, S.getD (t - 16) 0 = x := ⟨_, rfl⟩
          have rd : ∀ j, j < t → ∀ x, S.getD j 0 = x → wr.cell? ⟨w.heap.size, j, none⟩ = some (.int .u32 x) := by
            intro j hj x hx
            exact hbw.cell (by simp [u32s, hall j hj]; exact hx)
          have c2 := rd (t - 2) (by omega) _ e2
          have c7 := rd (t - 7) (by omega) _ e7
          have c15 := rd (t - 15) (by omega) _ e15
          have c16 := rd (t - 16) (by omega) _ e16
          obtain ⟨wk, ew⟩ : ∃ x, ws[t]? = some x := ⟨_, List.getElem?_eq_getElem (by rw [hws]; omega)⟩
          have cw : wr.cell? ⟨w.heap.size, t, none⟩ = some (.int .u32 wk) := hbw.cell (by simp [u32s, ew])
          have fw := hbw.free (i := t)
          have z2 : (0 : Int) ≤ (t : Int) - 2 := by omega
          have z7 : (0 : Int) ≤ (t : Int) - 7 := by omega
          have z15 : (0 : Int) ≤ (t : Int) - 15 := by omega
          have z16 : (0 : Int) ≤ (t : Int) - 16 := by omega
          have y7 : (t : Int) - 7 < 64 := by omega
          have w7 : IntKind.i64.wrap ((t : Int) - 7) = (t : Int) - 7 := IntWalk.i64_in _ (by omega)
          have w16 : IntKind.i64.wrap ((t : Int) - 16) = (t : Int) - 16 := IntWalk.i64_in _ (by omega)
          have v7 : (7 : Int) ≤ t := by omega
          have v16 : (16 : Int) ≤ t := by omega
          have u7 : (t : Int) < 71 := by omega
          have u16 : (t : Int) < 80 := by omega
          have u0 : (t : Int) < 64 := by omega
          have y16 : (t : Int) - 16 < 64 := by omega
          have n2 : ((t : Int) - 2).toNat = t - 2 := by omega
          have n7 : ((t : Int) - 7).toNat = t - 7 := by omega
          have n15 : ((t : Int) - 15).toNat = t - 15 := by omega
          have n16 : ((t : Int) - 16).toNat = t - 16 := by omega
          have HW := Lib.hid hws
          have HA := Lib.hid hall
          have H2 := Lib.hid e2
          have H7 := Lib.hid e7
          have H15 := Lib.hid e15
          have H16 := Lib.hid e16
          clear hws ew hall rd e2 e7 e15 e16
          go_wp2_with fail
          go_quiet (fail)
          go_wp2_with fail
          go_region_held3 (fun w' => w'.cell? ⟨w.heap.size, t - 7, none⟩ = some (.int .u32 x7) ∧ w'.cell? ⟨w.heap.size, t - 16, none⟩ = some (.int .u32 x16)) (go_simp)
            ((go_at_call 121; go_must (refine (turned_any _ _ _ (by decide)).mono ?_); go_must (rintro e w5 ⟨rfl, m, rfl⟩)))
          go_wp2
          have hnx : nxt x2 x7 x15 x16 = S.getD t 0 := by rw [hSch.next t ht1 hlt, H2.out, H7.out, H15.out, H16.out]
          refine ⟨⟨t + 1, ws.set t (nxt x2 x7 x15 x16), by omega, by omega, by go_num, by rw [List.length_set]; exact HW.out, ?_, ?_, ?_⟩, by simp [intOf]; omega⟩
          · rw [u32s_set]; exact Blk.set (w := wr.drewN _) hbw t _
          · intro j hj
            by_cases hjk : j = t
            · subst hjk; rw [List.getElem?_set_self (by rw [HW.out]; omega), hnx]
            · rw [List.getElem?_set_ne (by omega)]; exact HA.out j (by omega)
          · exact (hkr.drewN).set (Or.inr (Nat.le_refl _)) _
        · have hti : (t : Int) = 64 := by omega
          simp only [hti]
          obtain rfl : t = 64 := by omega
          clear hti
          clear hlt
          have hwsS : ws = S := by
            apply List.ext_getElem?
            intro j
            by_cases hj : j < 64
            · rw [hall j hj, List.getElem?_eq_getElem (by rw [hSch.len]; exact hj)]; simp [List.getD, List.getElem?_eq_getElem (show j < S.length by rw [hSch.len]; exact hj)]
            · rw [List.getElem?_eq_none (by omega), List.getElem?_eq_none (by rw [hSch.len]; omega)]
          subst hwsS
          clear hall ht1 ht2 hws
          go_upto_region 11 with fail
          exact turnTail ws hb st bl hv tot w wr h hblt HS.out hSch hbw hkr _ _ _ _ _ _ _ _ _ _ _ _ _ _ _ _ _ _ _ _ _ _ _ _ _ _ _ _ _ _ _ _ _ _ _ _ _ _ _ _ _ _ _ _ _ _ _ _ _ _ _ _ _ _ _ _ _ _ _ _ _ _ _ _ _ _ _ _ _ _ _ _ _ _ _ _ _ _ _ _ _ _ _ _ _ _ _ _ _ _ _ _ _ _ _ _ _ _ _ _ _ _ _ _ _ _ _ _ _ _ _ _ _ _ _ _ _ _ _ _ _ _ _ _ _ _ _ _ _ _ _ _ _ _ _ _ _ _ _ _ _ _ _ _ _ _ _ _ _ _ _ _ _ _ _ _ _ _ _ _ _ _ _ _ _ _ _ _ _ _ _ _ _ _ _ _ _ _ _ _ _ _ _ _ _ _ _ _ _ _ _ _ _ _ _ _ _ _ _ _ _ _ _ _ _ _ (by assumption)
end Go.Proofs.Ytpocegdlobnhaaa.Dig

/- The reference's turn computes the same state. -/
import Derived.Test.YtpocegdlobnhaaaIb
import Derived.Test.YtpocegdlobnhaaaDBa
import Derived.Test.YtpocegdlobnhaaaDQ
set_option linter.unusedVariables false
set_option linter.unusedSimpArgs false
set_option maxRecDepth 100000
namespace Go.Proofs.Ytpocegdlobnhaaa.Dig
open Go.RowKit

set_option maxHeartbeats 16000000 in
set_option maxRecDepth 100000 in
theorem refTurn_any (S st : List Int) (bl : List UInt8) (w : World) (pa : Option Addr) (cap : Nat) (hst : st.length = 8) (hbl : bl.length = 64) (hSch : Sched bl S) (hrd : Rd w pa (bs bl)) :
    Calls Try.prog 94 #[.agg (u32s st).toArray, .slice pa 64 cap, .agg (u32s ktab).toArray] w fun e w' => e = .returned (.agg (u32s (compS S st)).toArray) ∧ Keep [] w w' := by
  have HB := Lib.hid hbl
  clear hbl
  obtain ⟨s0, s1, s2, s3, s4, s5, s6, s7, rfl⟩ : ∃ s0 s1 s2 s3 s4 s5 s6 s7, st = [s0, s1, s2, s3, s4, s5, s6, s7] := eight hst
  obtain ⟨KT, hKT⟩ : ∃ KT, KT = u32s ktab := ⟨_, rfl⟩
  have kl : KT.length = 64 := by rw [hKT]; rfl
  rw [← hKT]
  have HK := Lib.hid hKT
  clear hKT hst
  go_enter Try.func94, Try.ntmps94
  go_upto_region 2 with fail
  go_cut [3, 5, 6, 7, 8] (fun v3 v5 v6 v7 v8 wc => v8 = .int .i64 0 ∧ ∃ b0 b1 b2 b3, v3 = .pointer (some ⟨b0, 0, none⟩) ∧ v5 = .pointer (some ⟨b1, 0, none⟩) ∧ v6 = .pointer (some ⟨b2, 0, none⟩) ∧ v7 = .pointer (some ⟨b3, 0, none⟩) ∧
    b0 < b1 ∧ b1 < b2 ∧ b2 < b3 ∧ w.heap.size ≤ b0 ∧ Blk wc b0 (u32s [s0, s1, s2, s3, s4, s5, s6, s7]).toArray 147 ∧ Blk wc b1 KT.toArray 149 ∧ Blk wc b2 (u32s [0, 0, 0, 0, 0, 0, 0, 0]).toArray 147 ∧ Blk wc b3 (u32s (List.replicate 64 0)).toArray 149 ∧ Keep [] w wc)
  case first =>
    go_wp2_with fail
    go_meet
    case rel =>
      refine ⟨rfl, _, _, _, _, rfl, rfl, rfl, rfl, by omega, by omega, by omega, by omega, ?_, ?_, ?_, ?_, ?_⟩
      · exact (((Blk.new w _ 147).alloc _).alloc _).alloc _
      · refine ((Blk.new' _ _ _ ?_).alloc _).alloc _; simp
      · refine (Blk.new' _ _ _ ?_).alloc _; simp
      · refine Blk.new' _ _ _ ?_; simp
      · exact ((((Keep.refl [] w).alloc _).alloc _).alloc _).alloc _
  case rest =>
    obtain ⟨rfl, b0, b1, b2, b3, rfl, rfl, rfl, rfl, h01, h12, h23, hw0, hb0, hb1, hb2, hb3, hk0⟩ := hcut
    have n30 : b0 ≠ b3 := by omega
    have n31 : b1 ≠ b3 := by omega
    have n32 : b2 ≠ b3 := by omega
    rw [← wsAt_none bl] at hb3
    go_wp2_with fail
    go_loopw [8] (fun i wr => ∃ (k : Nat), k ≤ 16 ∧ i = .int .i64 k ∧ Blk wr b0 (u32s [s0, s1, s2, s3, s4, s5, s6, s7]).toArray 147 ∧ Blk wr b1 KT.toArray 149 ∧ Blk wr b2 (u32s [0, 0, 0, 0, 0, 0, 0, 0]).toArray 147 ∧ Blk wr b3 (u32s (wsAt bl k 0)).toArray 149 ∧ Keep [] w wr) (fun i _ => 16 - (intOf i).toNat)
    case atStart => exact ⟨0, by omega, rfl, hb0, hb1, hb2, hb3, hk0⟩
    case round =>
      clear hb0 hb1 hb2 hb3 hk0
      obtain ⟨k, hk, rfl, hb0, hb1, hb2, hb3, hkr⟩ := hrel
      by_cases hlt : k < 16
      · go_wp2_with fail
        go_loopw [9] (fun i wx => ∃ (j : Nat), j ≤ 4 ∧ i = .int .i64 j ∧ Blk wx b0 (u32s [s0, s1, s2, s3, s4, s5, s6, s7]).toArray 147 ∧ Blk wx b1 KT.toArray 149 ∧ Blk wx b2 (u32s [0, 0, 0, 0, 0, 0, 0, 0]).toArray 147 ∧ Blk wx b3 (u32s (wsAt bl k (accW bl k j))).toArray 149 ∧ Keep [] w wx) (fun i _ => 4 - (intOf i).toNat)
        case atStart => exact ⟨0, by omega, rfl, hb0, hb1, hb2, hb3, hkr⟩
        case round =>
          clear hb0 hb1 hb2 hb3 hkr
          obtain ⟨j, hj, rfl, hb0, hb1, hb2, hb3, hkr⟩ := hrel
          by_cases hjl : j < 4
          · obtain ⟨b, off, rfl, hc⟩ := (hrd.keep hkr (by simp)).byte (k := 4 * k + j) (by rw [HB.out]; omega)
            obtain ⟨x, hx⟩ : ∃ x, bl.getD (4 * k + j) 0 = x := ⟨_, rfl⟩
            have hx' : bl[4 * k + j]'(by rw [HB.out]; omega) = x := by
              rw [← hx, List.getD_eq_getElem?_getD, List.getElem?_eq_getElem (by rw [HB.out]; omega)]; rfl
            rw [hx'] at hc
            obtain ⟨v, hv⟩ : ∃ v, accW bl k j = v := ⟨_, rfl⟩
            rw [hv] at hb3
            have cv : wr.cell? ⟨b3, k, none⟩ = some (.int .u32 v) := hb3.cell (by simp [u32s, wsAt_get (show k < 64 by omega)])
            have fv := hb3.free (i := k)
            have u1 : (4 * (k : Int) + j) < 64 := by omega
            have u2 : (0 : Int) ≤ 4 * (k : Int) + j := by omega
            have u3' : IntKind.i64.wrap (4 * (k : Int) + j) = 4 * k + j := IntWalk.i64_in _ (by omega)
            have u4 : (4 * (k : Int) + j).toNat = 4 * k + j := by omega
            have u5 : (k : Int) < 64 := by omega
            have HV := Lib.hid hv
            have HX := Lib.hid hx
            clear hv hx hx'
            go_wp2_with fail
            go_region
            go_wp2
            refine ⟨⟨j + 1, by omega, by go_num, (hb0.setOther n30 _).drew, (hb1.setOther n31 _).drew, (hb2.setOther n32 _).drew, ?_, ?_⟩, by simp [intOf]; omega⟩
            · have e : accW bl k (j + 1) = bits BinOp.or IntKind.u32 (v * 256 % 4294967296) ((x.toNat : Int) % 4294967296) := by
                rw [accW, HV.out, HX.out]
              rw [e, ← wsAt_set (v := v) (by omega), u32s_set]
              exact (hb3.set k _).drew
            · exact (hkr.set (Or.inr (by show w.heap.size ≤ b3; omega)) _).drew
          · obtain rfl : j = 4 := by omega
            go_wp2
            exact ⟨⟨k + 1, by omega, by go_num, hb0, hb1, hb2, by rw [acc4, wsAt_next (by omega)] at hb3; exact hb3, hkr⟩, by simp [intOf]; omega⟩
      · have hki : (k : Int) = 16 := by omega
        simp only [hki]
        obtain rfl : k = 16 := by omega
        clear hki hlt hk
        go_wp2_with fail
        go_loopw [10] (fun i wx => ∃ (t : Nat) (ws : List Int), 16 ≤ t ∧ t ≤ 64 ∧ i = .int .i64 t ∧ ws.length = 64 ∧ Blk wx b0 (u32s [s0, s1, s2, s3, s4, s5, s6, s7]).toArray 147 ∧ Blk wx b1 KT.toArray 149 ∧ Blk wx b2 (u32s [0, 0, 0, 0, 0, 0, 0, 0]).toArray 147 ∧ Blk wx b3 (u32s ws).toArray 149 ∧ (∀ j, j < t → ws[j]? = some (S.getD j 0)) ∧ Keep [] w wx) (fun i _ => 64 - (intOf i).toNat)
        case atStart => exact ⟨16, wsAt bl 16 0, by omega, by omega, rfl, wsAt_length _ _ _, hb0, hb1, hb2, hb3, fun j hj => by rw [wsAt_done hj (by omega), hSch.first j hj], hkr⟩
        case round =>
          clear hb0 hb1 hb2 hb3 hkr
          obtain ⟨t, ws, ht1, ht2, rfl, hws, hb0, hb1, hb2, hbw, hall, hkr⟩ := hrel
          by_cases hlt : t < 64
          · obtain ⟨x2, e2⟩ : ∃ x, S.getD (t - 2) 0 = x := ⟨_, rfl⟩
            obtain ⟨x7, e7⟩ : ∃ x, S.getD (t - 7) 0 = x := ⟨_, rfl⟩
            obtain ⟨x15, e15⟩ : ∃ x, S.getD (t - 15) 0 = x := ⟨_, rfl⟩
            obtain ⟨x16, e16⟩ : ∃ x, S.getD (t - 16) 0 = x := ⟨_, rfl⟩
            have rd : ∀ j, j < t → ∀ x, S.getD j 0 = x → wr.cell? ⟨b3, j, none⟩ = some (.int .u32 x) := by
              intro j hj x hx
              exact hbw.cell (by simp [u32s, hall j hj]; exact hx)
            have c2 := rd (t - 2) (by omega) _ e2
            have c7 := rd (t - 7) (by omega) _ e7
            have c15 := rd (t - 15) (by omega) _ e15
            have c16 := rd (t - 16) (by omega) _ e16
            obtain ⟨wk, ew⟩ : ∃ x, ws[t]? = some x := ⟨_, List.getElem?_eq_getElem (by rw [hws]; omega)⟩
            have cw : wr.cell? ⟨b3, t, none⟩ = some (.int .u32 wk) := hbw.cell (by simp [u32s, ew])
            have fw := hbw.free (i := t)
            have z2 : (0 : Int) ≤ (t : Int) - 2 := by omega
            have z7 : (0 : Int) ≤ (t : Int) - 7 := by omega
            have z15 : (0 : Int) ≤ (t : Int) - 15 := by omega
            have z16 : (0 : Int) ≤ (t : Int) - 16 := by omega
            have y7 : (t : Int) - 7 < 64 := by omega
            have w7 : IntKind.i64.wrap ((t : Int) - 7) = (t : Int) - 7 := IntWalk.i64_in _ (by omega)
            have w16 : IntKind.i64.wrap ((t : Int) - 16) = (t : Int) - 16 := IntWalk.i64_in _ (by omega)
            have v7 : (7 : Int) ≤ t := by omega
            have v16 : (16 : Int) ≤ t := by omega
            have u7 : (t : Int) < 71 := by omega
            have u16 : (t : Int) < 80 := by omega
            have u0 : (t : Int) < 64 := by omega
            have y16 : (t : Int) - 16 < 64 := by omega
            have n2 : ((t : Int) - 2).toNat = t - 2 := by omega
            have n7 : ((t : Int) - 7).toNat = t - 7 := by omega
            have n15 : ((t : Int) - 15).toNat = t - 15 := by omega
            have n16 : ((t : Int) - 16).toNat = t - 16 := by omega
            have HW := Lib.hid hws
            have HA := Lib.hid hall
            have H2 := Lib.hid e2
            have H7 := Lib.hid e7
            have H15 := Lib.hid e15
            have H16 := Lib.hid e16
            clear hws ew hall rd e2 e7 e15 e16
            go_wp2_with fail
            go_region_held3 (fun w' => w'.cell? ⟨b3, t - 7, none⟩ = some (.int .u32 x7) ∧ w'.cell? ⟨b3, t - 16, none⟩ = some (.int .u32 x16)) (go_simp)
              ((go_at_call 114; go_must (refine (turnedRef_any _ _ _ (by decide)).mono ?_); go_must (rintro e w5 ⟨rfl, m, rfl⟩)))
            go_wp2
            have hnx : nxt x2 x7 x15 x16 = S.getD t 0 := by rw [hSch.next t ht1 hlt, H2.out, H7.out, H15.out, H16.out]
            refine ⟨⟨t + 1, ws.set t (nxt x2 x7 x15 x16), by omega, by omega, by go_num, by rw [List.length_set]; exact HW.out, Blk.setOther (w := wr.drewN _) hb0 n30 _, Blk.setOther (w := wr.drewN _) hb1 n31 _, Blk.setOther (w := wr.drewN _) hb2 n32 _, ?_, ?_, ?_⟩, by simp [intOf]; omega⟩
            · rw [u32s_set]; exact Blk.set (w := wr.drewN _) hbw t _
            · intro j hj
              by_cases hjk : j = t
              · subst hjk; rw [List.getElem?_set_self (by rw [HW.out]; omega), hnx]
              · rw [List.getElem?_set_ne (by omega)]; exact HA.out j (by omega)
            · exact (hkr.drewN).set (Or.inr (by show w.heap.size ≤ b3; omega)) _
          · have hti : (t : Int) = 64 := by omega
            simp only [hti]
            obtain rfl : t = 64 := by omega
            clear hti hlt
            have hwsS : ws = S := by
              apply List.ext_getElem?
              intro j
              by_cases hj : j < 64
              · rw [hall j hj, List.getElem?_eq_getElem (by rw [hSch.len]; exact hj)]; simp [List.getD, List.getElem?_eq_getElem (show j < S.length by rw [hSch.len]; exact hj)]
              · rw [List.getElem?_eq_none (by omega), List.getElem?_eq_none (by rw [hSch.len]; omega)]
            subst hwsS
            clear hall ht1 ht2 hws
            have c0 : wr.cell? ⟨b0, 0, none⟩ = some (.int .u32 s0) := hb0.cell (i := 0) rfl
            have c1 : wr.cell? ⟨b0, 1, none⟩ = some (.int .u32 s1) := hb0.cell (i := 1) rfl
            have c2 : wr.cell? ⟨b0, 2, none⟩ = some (.int .u32 s2) := hb0.cell (i := 2) rfl
            have c3 : wr.cell? ⟨b0, 3, none⟩ = some (.int .u32 s3) := hb0.cell (i := 3) rfl
            have c4 : wr.cell? ⟨b0, 4, none⟩ = some (.int .u32 s4) := hb0.cell (i := 4) rfl
            have c5 : wr.cell? ⟨b0, 5, none⟩ = some (.int .u32 s5) := hb0.cell (i := 5) rfl
            have c6 : wr.cell? ⟨b0, 6, none⟩ = some (.int .u32 s6) := hb0.cell (i := 6) rfl
            have c7 : wr.cell? ⟨b0, 7, none⟩ = some (.int .u32 s7) := hb0.cell (i := 7) rfl
            have hlt0 := hb0.lt
            have hlt1 := hb1.lt
            have hlt2 := hb2.lt
            have hlt3 := hbw.lt
            obtain ⟨p, hp⟩ : ∃ p, p = wr.heap.size := ⟨_, rfl⟩
            have m0 : b0 ≠ p := by omega
            have m1 : b1 ≠ p := by omega
            have m2 : b2 ≠ p := by omega
            have m3 : b3 ≠ p := by omega
            have mw : w.heap.size ≤ p := by omega
            go_wp2_with fail
            rw [← hp]
            go_loopw [14] (fun i wx => ∃ (t : Nat), t ≤ 64 ∧ i = .int .i64 t ∧ Blk wx b0 (u32s [s0, s1, s2, s3, s4, s5, s6, s7]).toArray 147 ∧ Blk wx b1 KT.toArray 149 ∧ Blk wx b2 (u32s [0, 0, 0, 0, 0, 0, 0, 0]).toArray 147 ∧ Blk wx b3 (u32s ws).toArray 149 ∧ Blk wx p (u32s (rounds ws [s0, s1, s2, s3, s4, s5, s6, s7] t)).toArray 147 ∧ Keep [] w wx) (fun i _ => 64 - (intOf i).toNat)
            case atStart => exact ⟨0, by omega, rfl, hb0.alloc _, hb1.alloc _, hb2.alloc _, hbw.alloc _, by rw [hp]; exact Blk.new wr _ 147, hkr.alloc _⟩
            case round =>
              clear hb0 hb1 hb2 hbw hkr c0 c1 c2 c3 c4 c5 c6 c7 hlt0 hlt1 hlt2 hlt3 hp
              obtain ⟨t, ht, rfl, hb0, hb1, hb2, hbW, hbp, hkc⟩ := hrel
              by_cases hlt : t < 64
              · obtain ⟨a, b, c, d, e, f, g, hh, hst⟩ := eight (rounds_length (S := ws) (st := [s0, s1, s2, s3, s4, s5, s6, s7]) rfl t)
                obtain ⟨x, hx⟩ : ∃ x, ws.getD t 0 = x := ⟨_, rfl⟩
                obtain ⟨k, hk⟩ : ∃ k, ktab.getD t 0 = k := ⟨_, rfl⟩
                rw [hst] at hbp
                have c0 : wr.cell? ⟨p, 0, none⟩ = some (.int .u32 a) := hbp.cell (i := 0) rfl
                have c1 : wr.cell? ⟨p, 1, none⟩ = some (.int .u32 b) := hbp.cell (i := 1) rfl
                have c2 : wr.cell? ⟨p, 2, none⟩ = some (.int .u32 c) := hbp.cell (i := 2) rfl
                have c3 : wr.cell? ⟨p, 3, none⟩ = some (.int .u32 d) := hbp.cell (i := 3) rfl
                have c4 : wr.cell? ⟨p, 4, none⟩ = some (.int .u32 e) := hbp.cell (i := 4) rfl
                have c5 : wr.cell? ⟨p, 5, none⟩ = some (.int .u32 f) := hbp.cell (i := 5) rfl
                have c6 : wr.cell? ⟨p, 6, none⟩ = some (.int .u32 g) := hbp.cell (i := 6) rfl
                have c7 : wr.cell? ⟨p, 7, none⟩ = some (.int .u32 hh) := hbp.cell (i := 7) rfl
                have f0 := hbp.free (i := 0)
                have f1 := hbp.free (i := 1)
                have f2 := hbp.free (i := 2)
                have f3 := hbp.free (i := 3)
                have f4 := hbp.free (i := 4)
                have f5 := hbp.free (i := 5)
                have f6 := hbp.free (i := 6)
                have f7 := hbp.free (i := 7)
                have cW : wr.cell? ⟨b3, t, none⟩ = some (.int .u32 x) := hbW.cell (by rw [← hx]; simp [u32s, List.getD, List.getElem?_eq_getElem (show t < ws.length by rw [hSch.len]; exact hlt)])
                have cK : wr.cell? ⟨b1, t, none⟩ = some (.int .u32 k) := hb1.cell (by rw [HK.out, ← hk]; have : t < ktab.length := hlt; simp [u32s, List.getD, List.getElem?_eq_getElem this])
                have u0 : (t : Int) < 64 := by omega
                have HST := Lib.hid hst
                have HX := Lib.hid hx
                have HKK := Lib.hid hk
                clear hst hx hk
                go_wp2_with fail
                go_region_held3 (fun w' => w'.cell? ⟨p, 7, none⟩ = some (.int .u32 hh) ∧ w'.cell? ⟨p, 5, none⟩ = some (.int .u32 f) ∧ w'.cell? ⟨p, 6, none⟩ = some (.int .u32 g) ∧ w'.cell? ⟨b1, t, none⟩ = some (.int .u32 k) ∧ w'.cell? ⟨b3, t, none⟩ = some (.int .u32 x)) (go_simp)
                  ((go_at_call 114; go_must (refine (turnedRef_any _ _ _ (by decide)).mono ?_); go_must (rintro e w5 ⟨rfl, m, rfl⟩)))
                go_wp2_with fail
                go_region_held3 (fun w' => w'.cell? ⟨p, 1, none⟩ = some (.int .u32 b) ∧ w'.cell? ⟨p, 2, none⟩ = some (.int .u32 c)) (go_simp)
                  ((go_at_call 114; go_must (refine (turnedRef_any _ _ _ (by decide)).mono ?_); go_must (rintro e w5 ⟨rfl, m, rfl⟩)))
                go_wp2_with fail
                refine ⟨⟨t + 1, by omega, by go_num, ?_, ?_, ?_, ?_, ?_, ?_⟩, by simp [intOf]; omega⟩
                · exact ((((((((Blk.setOther (w := wr.drewN _) hb0 m0 _).setOther m0 _).setOther m0 _).setOther m0 _).setOther m0 _).setOther m0 _).setOther m0 _).setOther m0 _)
                · exact ((((((((Blk.setOther (w := wr.drewN _) hb1 m1 _).setOther m1 _).setOther m1 _).setOther m1 _).setOther m1 _).setOther m1 _).setOther m1 _).setOther m1 _)
                · exact ((((((((Blk.setOther (w := wr.drewN _) hb2 m2 _).setOther m2 _).setOther m2 _).setOther m2 _).setOther m2 _).setOther m2 _).setOther m2 _).setOther m2 _)
                · exact ((((((((Blk.setOther (w := wr.drewN _) hbW m3 _).setOther m3 _).setOther m3 _).setOther m3 _).setOther m3 _).setOther m3 _).setOther m3 _).setOther m3 _)
                · have hr : rounds ws [s0, s1, s2, s3, s4, s5, s6, s7] (t + 1) = [(rndX k x e f g hh + rndY a b c) % 4294967296, a, b, c, (d + rndX k x e f g hh) % 4294967296, e, f, g] := by
                    show rndL _ _ (rounds ws _ t) = _
                    rw [HST.out, HX.out, HKK.out]; rfl
                  rw [hr]
                  exact Blk.set8 (w := wr.drewN _) hbp
                · exact (((((((((hkc.drewN).set (Or.inr mw) _).set (Or.inr mw) _).set (Or.inr mw) _).set (Or.inr mw) _).set (Or.inr mw) _).set (Or.inr mw) _).set (Or.inr mw) _).set (Or.inr mw) _)
              · have hti : (t : Int) = 64 := by omega
                simp only [hti]
                obtain rfl : t = 64 := by omega
                clear hti hlt ht
                go_wp2_with fail
                go_loopw [19] (fun i wx => ∃ (n : Nat), n ≤ 8 ∧ i = .int .i64 n ∧ Blk wx b0 (u32s (mix [s0, s1, s2, s3, s4, s5, s6, s7] (rounds ws [s0, s1, s2, s3, s4, s5, s6, s7] 64) n)).toArray 147 ∧ Blk wx b2 (u32s [0, 0, 0, 0, 0, 0, 0, 0]).toArray 147 ∧ Blk wx p (u32s (rounds ws [s0, s1, s2, s3, s4, s5, s6, s7] 64)).toArray 147 ∧ Keep [] w wx) (fun i _ => 8 - (intOf i).toNat)
                case atStart => exact ⟨0, by omega, rfl, hb0, hb2, hbp, hkc⟩
                case round =>
                  clear hbp hb0 hb1 hb2 hbW hkc
                  obtain ⟨n, hn, rfl, hbh, hb2, hbp, hkc⟩ := hrel
                  have rl : (rounds ws [s0, s1, s2, s3, s4, s5, s6, s7] 64).length = 8 := rounds_length rfl 64
                  obtain ⟨R, hR⟩ : ∃ R, rounds ws [s0, s1, s2, s3, s4, s5, s6, s7] 64 = R := ⟨_, rfl⟩
                  rw [hR] at rl hbh hbp
                  obtain ⟨st, hst⟩ : ∃ st, [s0, s1, s2, s3, s4, s5, s6, s7] = st := ⟨_, rfl⟩
                  have sl : st.length = 8 := by rw [← hst]; rfl
                  have HR := Lib.hid hR
                  have HS := Lib.hid hst
                  rw [hst] at hbh
                  by_cases hlt : n < 8
                  · rw [hR, hst]
                    clear hst hR HR HS
                    have ex : st[n]? = some (st.getD n 0) := by simp [List.getD, List.getElem?_eq_getElem (show n < st.length by omega)]
                    have ey : R[n]? = some (R.getD n 0) := by simp [List.getD, List.getElem?_eq_getElem (show n < R.length by omega)]
                    obtain ⟨x, hx⟩ : ∃ x, st.getD n 0 = x := ⟨_, rfl⟩
                    obtain ⟨y, hy⟩ : ∃ y, R.getD n 0 = y := ⟨_, rfl⟩
                    rw [hx] at ex
                    rw [hy] at ey
                    have ml : (mix st R n).length = 8 := (mix_length st R n).trans sl
                    obtain ⟨M, hM⟩ : ∃ M, mix st R n = M := ⟨_, rfl⟩
                    have em : M[n]? = some x := by rw [← hM, mix_get st R n (Nat.le_refl _)]; exact ex
                    rw [hM] at ml hbh
                    have cx : wr.cell? ⟨b0, n, none⟩ = some (.int .u32 x) := hbh.cell (by simp [u32s, em])
                    have fx := hbh.free (i := n)
                    have cy : wr.cell? ⟨p, n, none⟩ = some (.int .u32 y) := hbp.cell (by simp [u32s, ey])
                    have HM := Lib.hid hM
                    have HX := Lib.hid hx
                    have HY := Lib.hid hy
                    have ML := Lib.hid ml
                    clear hM hx hy ml ex ey em rl sl
                    go_wp2_with fail
                    go_region
                    go_wp2
                    refine ⟨⟨n + 1, by omega, by go_num, ?_, (hb2.setOther (by show b2 ≠ b0; omega) _).drew, (hbp.setOther m0.symm _).drew, (hkc.set (Or.inr hw0) _).drew⟩, by simp [intOf]; omega⟩
                    have hm : mix st R (n + 1) = M.set n ((x + y) % 4294967296) := by
                      show (mix st R n).set n (IntKind.u32.wrap (st.getD n 0 + R.getD n 0)) = _
                      rw [HM.out, HX.out, HY.out]; rfl
                    rw [hm, u32s_set]
                    exact (hbh.set n _).drew
                  · obtain rfl : n = 8 := by omega
                    clear hst hR
                    have hM : mix st R 8 = compS ws [s0, s1, s2, s3, s4, s5, s6, s7] := by rw [compS, HR.out, HS.out]
                    rw [hM] at hbh
                    obtain ⟨a, b, c, d, e, f, g, hh, hc⟩ := eight (show (compS ws [s0, s1, s2, s3, s4, s5, s6, s7]).length = 8 from (mix_length _ _ 8))
                    rw [hc] at hbh
                    have c0 : wr.cell? ⟨b0, 0, none⟩ = some (.int .u32 a) := hbh.cell (i := 0) rfl
                    have c1 : wr.cell? ⟨b0, 1, none⟩ = some (.int .u32 b) := hbh.cell (i := 1) rfl
                    have c2 : wr.cell? ⟨b0, 2, none⟩ = some (.int .u32 c) := hbh.cell (i := 2) rfl
                    have c3 : wr.cell? ⟨b0, 3, none⟩ = some (.int .u32 d) := hbh.cell (i := 3) rfl
                    have c4 : wr.cell? ⟨b0, 4, none⟩ = some (.int .u32 e) := hbh.cell (i := 4) rfl
                    have c5 : wr.cell? ⟨b0, 5, none⟩ = some (.int .u32 f) := hbh.cell (i := 5) rfl
                    have c6 : wr.cell? ⟨b0, 6, none⟩ = some (.int .u32 g) := hbh.cell (i := 6) rfl
                    have c7 : wr.cell? ⟨b0, 7, none⟩ = some (.int .u32 hh) := hbh.cell (i := 7) rfl
                    have d0 : wr.cell? ⟨b2, 0, none⟩ = some (.int .u32 0) := hb2.cell (i := 0) rfl
                    have d1 : wr.cell? ⟨b2, 1, none⟩ = some (.int .u32 0) := hb2.cell (i := 1) rfl
                    have d2 : wr.cell? ⟨b2, 2, none⟩ = some (.int .u32 0) := hb2.cell (i := 2) rfl
                    have d3 : wr.cell? ⟨b2, 3, none⟩ = some (.int .u32 0) := hb2.cell (i := 3) rfl
                    have d4 : wr.cell? ⟨b2, 4, none⟩ = some (.int .u32 0) := hb2.cell (i := 4) rfl
                    have d5 : wr.cell? ⟨b2, 5, none⟩ = some (.int .u32 0) := hb2.cell (i := 5) rfl
                    have d6 : wr.cell? ⟨b2, 6, none⟩ = some (.int .u32 0) := hb2.cell (i := 6) rfl
                    have d7 : wr.cell? ⟨b2, 7, none⟩ = some (.int .u32 0) := hb2.cell (i := 7) rfl
                    have f0 := hb2.free (i := 0)
                    have f1 := hb2.free (i := 1)
                    have f2 := hb2.free (i := 2)
                    have f3 := hb2.free (i := 3)
                    have f4 := hb2.free (i := 4)
                    have f5 := hb2.free (i := 5)
                    have f6 := hb2.free (i := 6)
                    have f7 := hb2.free (i := 7)
                    have HC := Lib.hid hc
                    have HM := Lib.hid hM
                    clear hc hM
                    go_wp2_with fail
                    have hw2 : w.heap.size ≤ b2 := by omega
                    refine bodyPost_ret (results_cell_row rfl _ _ b2 147 (u32s [a, b, c, d, e, f, g, hh]).toArray (0, 0) _ rfl (Blk.set8 (w := wr) hb2).hp rfl rfl rfl) rfl ⟨by rw [HC.out], ?_⟩
                    exact ((((((((hkc.set (Or.inr hw2) _).set (Or.inr hw2) _).set (Or.inr hw2) _).set (Or.inr hw2) _).set (Or.inr hw2) _).set (Or.inr hw2) _).set (Or.inr hw2) _).set (Or.inr hw2) _)
end Go.Proofs.Ytpocegdlobnhaaa.Dig

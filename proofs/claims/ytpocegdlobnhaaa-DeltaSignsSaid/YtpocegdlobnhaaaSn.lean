/- Sign of the program and of the document. -/
import Derived.Test.YtpocegdlobnhaaaSx
import Derived.Test.YtpocegdlobnhaaaMa
set_option linter.unusedVariables false
set_option linter.unusedSimpArgs false
set_option maxRecDepth 100000
namespace Go.Proofs.Ytpocegdlobnhaaa
open Go.RowKit
theorem signC_arg {wd sz : Int} {d : List UInt8} (h : (okW wd && okS sz) = false) : signC wd d sz = 1 := by unfold signC; rw [if_neg (by rw [h]; simp)]
theorem signC_long {wd sz : Int} {d : List UInt8} (h : (okW wd && okS sz) = true) (hl : 131072 < d.length) : signC wd d sz = 2 := by unfold signC; rw [if_pos h, if_pos hl]
theorem signC_parts {wd sz : Int} {d : List UInt8} (h : (okW wd && okS sz) = true) (hl : ¬ 131072 < d.length) (hp : 2048 < (d.length : Int) / sz) : signC wd d sz = 183 := by unfold signC; rw [if_pos h, if_neg hl, if_pos hp]
theorem signC_ok {wd sz : Int} {d : List UInt8} (h : (okW wd && okS sz) = true) (hl : ¬ 131072 < d.length) (hp : ¬ 2048 < (d.length : Int) / sz) : signC wd d sz = 0 := by unfold signC; rw [if_pos h, if_neg hl, if_neg hp]
theorem signS_no {wd sz : Int} {d : List UInt8} (h : signC wd d sz ≠ 0) : signS wd d sz = zeroG := by unfold signS; rw [if_neg h]
theorem signS_ok {wd sz : Int} {d : List UInt8} (h : signC wd d sz = 0) : signS wd d sz = signR wd d sz.toNat (d.length / sz.toNat) := by unfold signS; rw [if_pos h]
theorem sumF_n (a : Option Addr) (n c : Nat) (xs : List UInt8) (w : World) (hl : xs.length = n) (hn : n ≤ 9223372036854775807) (hr : Rd w a (bs xs)) : Calls Try.prog 44 #[.slice a n c] w fun e w' => e = .returned (.int .i64 (Rol.sumOf xs)) ∧ Keep [] w w' := by
  subst hl; exact Rol.sumF_any a c xs w hn hr
theorem refSum_n (a : Option Addr) (n c : Nat) (xs : List UInt8) (w : World) (hl : xs.length = n) (hn : n ≤ 9223372036854775807) (hr : Rd w a (bs xs)) : Calls Try.prog 46 #[.slice a n c] w fun e w' => e = .returned (.int .i64 (Rol.sumOf xs)) ∧ Keep [] w w' := by
  subst hl
  refine (Rol.refSum_any a c xs w hn hr).mono ?_
  rintro e w' ⟨rfl, rfl⟩; exact ⟨rfl, Keep.refl _ _⟩
/-- A signature's head, its blocks left open. -/
def hd (wd : Int) (d : List UInt8) (S : Nat) : Sg := signR wd d S 0
theorem hd_cells (wd : Int) (d : List UInt8) (S k : Nat) (a : Option Addr) (n c : Nat) : (signR wd d S k).cells a n c = (hd wd d S).cells a n c := rfl

set_option maxHeartbeats 8000000 in
theorem sign_any (wd : Int) (a : Option Addr) (n c : Nat) (d : List UInt8) (sz : Int) (w : World) (hx : InBytes w a n c d) :
    Calls Try.prog 16 #[.int .i64 wd, .slice a n c, .int .i64 sz] w (GiveG w (signS wd d sz) (signC wd d sz)) := by
  have B6 : Blk (w.alloc (.cells (zeroG.cells none 0 0).toArray 29)) w.heap.size (zeroG.cells none 0 0).toArray 29 := Blk.new _ _ _
  have k0 : Keep [] w (w.alloc (.cells (zeroG.cells none 0 0).toArray 29)) := (Keep.refl [] w).alloc _
  obtain ⟨W, hW⟩ : ∃ W, w.alloc (.cells (zeroG.cells none 0 0).toArray 29) = W := ⟨_, rfl⟩
  obtain ⟨p6, hp6⟩ : ∃ p, w.heap.size = p := ⟨_, rfl⟩
  rw [hW] at B6 k0
  rw [hp6] at B6
  have HW := Lib.hid hW
  have HP := Lib.hid hp6
  have hw6 : w.heap.size ≤ p6 := by omega
  have HX0 := Lib.hid hx
  have HL := Lib.hid hx.hlen
  have hsh := hx.short
  have HZI := Lib.hid (hi29 zeroG none 0 0)
  have HZ1 := Lib.hid (zeroG.one none 0 0)
  obtain ⟨zc, hzc⟩ : ∃ zc, zeroG.cells none 0 0 = zc := ⟨_, rfl⟩
  have HZB := Lib.hid (show Try.prog.built 29 [] = some zc.toArray by rw [← hzc]; exact built_zero29)
  have HZC := Lib.hid hzc
  rw [hzc] at B6 HZI HZ1 HW
  clear hW hp6 hzc
  go_enter Try.func16, Try.ntmps16
  go_upto_region 1 with fail
  change Code.wp _ _ _ _ (World.alloc _ (.cells (zeroG.cells none 0 0).toArray 29))
  rw [HZC.out, HW.out, HP.out]
  cases hok1 : okW wd with
  | false =>
    have HC := Lib.hid (signC_arg (d := d) (sz := sz) (by rw [hok1]; rfl))
    have HS := Lib.hid (signS_no (wd := wd) (sz := sz) (d := d) (by rw [HC.out]; decide))
    go_wp2_with (first
      | (go_at_call 41; refine (isWidth_any _ _).mono ?_; rintro e w1 ⟨rfl, hww⟩; have hww' := hww.symm; subst hww'; rw [hok1])
      | (go_at_call 42; refine (isSize_any _ _).mono ?_; rintro e w1 ⟨rfl, hww⟩; have hww' := hww.symm; subst hww'; rw [hok2])
      | (refine wpList_built0 rfl 29 rfl zc.toArray HZB.out ?_)
      | (refine wpList_storeAll rfl 29 (.tmp 6) (.tmp 20) rfl p6 29 zc zc rfl rfl B6 rfl HZ1.out HZI.out ?_; intro w5 B5 k5)
      | fail)
    refine bodyPost_ret (results_cellt rfl _ _ p6 29 zc.toArray (0, 0) _ rfl B5 Try.underlying29 rfl (by simpa using HZI.out) (.int .i64 1) rfl) rfl ?_
    rw [HC.out, HS.out, ← HZC.out]
    exact GiveG.none (k0.trans k5 (fun b hb => by simp only [List.mem_singleton] at hb; subst hb; exact Or.inr hw6))
  | true =>
    cases hok2 : okS sz with
    | false =>
      have HC := Lib.hid (signC_arg (d := d) (wd := wd) (by rw [hok2, Bool.and_false]))
      have HS := Lib.hid (signS_no (wd := wd) (sz := sz) (d := d) (by rw [HC.out]; decide))
      go_wp2_with (first
        | (go_at_call 41; refine (isWidth_any _ _).mono ?_; rintro e w1 ⟨rfl, hww⟩; have hww' := hww.symm; subst hww'; rw [hok1])
        | (go_at_call 42; refine (isSize_any _ _).mono ?_; rintro e w1 ⟨rfl, hww⟩; have hww' := hww.symm; subst hww'; rw [hok2])
        | (refine wpList_built0 rfl 29 rfl zc.toArray HZB.out ?_)
        | (refine wpList_storeAll rfl 29 (.tmp 6) (.tmp 20) rfl p6 29 zc zc rfl rfl B6 rfl HZ1.out HZI.out ?_; intro w5 B5 k5)
        | fail)
      refine bodyPost_ret (results_cellt rfl _ _ p6 29 zc.toArray (0, 0) _ rfl B5 Try.underlying29 rfl (by simpa using HZI.out) (.int .i64 1) rfl) rfl ?_
      rw [HC.out, HS.out, ← HZC.out]
      exact GiveG.none (k0.trans k5 (fun b hb => by simp only [List.mem_singleton] at hb; subst hb; exact Or.inr hw6))
    | true =>
      have hok : (okW wd && okS sz) = true := by rw [hok1, hok2]; rfl
      have hwd : 1 ≤ wd ∧ wd ≤ 32 := by have := (Bool.and_eq_true _ _).mp hok; simpa [okW] using this.1
      have hsz : 16 ≤ sz ∧ sz ≤ 4096 := by have := (Bool.and_eq_true _ _).mp hok; simpa [okS] using this.2
      have HOK := Lib.hid hok
      by_cases h1 : 131072 < n
      · have d1 : (131072 : Int) < n := by omega
        have HC := Lib.hid (signC_long HOK.out (by rw [HL.out]; exact h1))
        have HS := Lib.hid (signS_no (wd := wd) (sz := sz) (d := d) (by rw [HC.out]; decide))
        go_wp2_with (first
          | (go_at_call 41; refine (isWidth_any _ _).mono ?_; rintro e w1 ⟨rfl, hww⟩; have hww' := hww.symm; subst hww'; rw [hok1])
          | (go_at_call 42; refine (isSize_any _ _).mono ?_; rintro e w1 ⟨rfl, hww⟩; have hww' := hww.symm; subst hww'; rw [hok2])
          | (refine wpList_built0 rfl 29 rfl zc.toArray HZB.out ?_)
          | (refine wpList_storeAll rfl 29 (.tmp 6) (.tmp 25) rfl p6 29 zc zc rfl rfl B6 rfl HZ1.out HZI.out ?_; intro w5 B5 k5)
          | fail)
        refine bodyPost_ret (results_cellt rfl _ _ p6 29 zc.toArray (0, 0) _ rfl B5 Try.underlying29 rfl (by simpa using HZI.out) (.int .i64 2) rfl) rfl ?_
        rw [HC.out, HS.out, ← HZC.out]
        exact GiveG.none (k0.trans k5 (fun b hb => by simp only [List.mem_singleton] at hb; subst hb; exact Or.inr hw6))
      have d1 : ¬ (131072 : Int) < n := by omega
      obtain ⟨S, rfl⟩ : ∃ S : Nat, sz = S := ⟨sz.toNat, by omega⟩
      obtain ⟨Q, hQ⟩ : ∃ Q, n / S = Q := ⟨_, rfl⟩
      have hQi : (n : Int) / (S : Int) = Q := by rw [← hQ]; simp
      have hqd : (n : Int).tdiv S = Q := by rw [tdiv_of (by omega)]; exact hQi
      have hQn : Q ≤ n := by rw [← hQ]; exact Nat.div_le_self _ _
      have hqw : IntKind.i64.wrap (Q : Int) = Q := IntWalk.i64_in _ (by omega)
      have hz0 : ((S : Int) == 0) = false := by simp; omega
      have hz1 : ¬ (S : Int) = 0 := by omega
      have hz2 : ¬ S = 0 := by omega
      have HQI := Lib.hid hQi
      have HQ := Lib.hid hQ
      clear hQi hQ
      by_cases h2 : 2048 < Q
      · have d2 : (2048 : Int) < Q := by omega
        have HC := Lib.hid (signC_parts HOK.out (by rw [HL.out]; exact h1) (by rw [HL.out, HQI.out]; exact d2))
        have HS := Lib.hid (signS_no (wd := wd) (sz := (S : Nat)) (d := d) (by rw [HC.out]; decide))
        go_wp2_with (first
          | (go_at_call 41; refine (isWidth_any _ _).mono ?_; rintro e w1 ⟨rfl, hww⟩; have hww' := hww.symm; subst hww'; rw [hok1])
          | (go_at_call 42; refine (isSize_any _ _).mono ?_; rintro e w1 ⟨rfl, hww⟩; have hww' := hww.symm; subst hww'; rw [hok2])
          | (refine wpList_built0 rfl 29 rfl zc.toArray HZB.out ?_)
          | (refine wpList_storeAll rfl 29 (.tmp 6) (.tmp 32) rfl p6 29 zc zc rfl rfl B6 rfl HZ1.out HZI.out ?_; intro w5 B5 k5)
          | fail)
        refine bodyPost_ret (results_cellt rfl _ _ p6 29 zc.toArray (0, 0) _ rfl B5 Try.underlying29 rfl (by simpa using HZI.out) (.int .i64 183) rfl) rfl ?_
        rw [HC.out, HS.out, ← HZC.out]
        exact GiveG.none (k0.trans k5 (fun b hb => by simp only [List.mem_singleton] at hb; subst hb; exact Or.inr hw6))
      have d2 : ¬ (2048 : Int) < Q := by omega
      have HC := Lib.hid (signC_ok HOK.out (by rw [HL.out]; exact h1) (by rw [HL.out, HQI.out]; exact d2))
      have HS := Lib.hid (show signS wd d S = signR wd d S Q by have h := signS_ok HC.out; rw [HL.out] at h; rw [h]; simp only [Int.toNat_natCast, HQ.out])
      have hle := hx.hle
      have hxW := hx.keep k0 (by simp)
      have hb0 := Dig.shaId_length wd d
      obtain ⟨base, hbase⟩ : ∃ b, Dig.shaId wd d = b := ⟨_, rfl⟩
      have Bq : Blk (W.alloc (.cells #[.slice a n c] 22)) W.heap.size #[.slice a n c] 22 := Blk.new _ _ _
      have kq : Keep [] W (W.alloc (.cells #[.slice a n c] 22)) := (Keep.refl [] W).alloc _
      have OF := Lib.hid (by have := of_one wd Bq (hxW.keep kq (by simp)); rwa [hbase] at this : Calls Try.prog 43 #[.int .i64 wd, .slice (some ⟨W.heap.size, 0, none⟩) 1 1] (W.alloc (.cells #[.slice a n c] 22)) fun e w' => e = .returned (.agg (bs base).toArray) ∧ Keep [] (W.alloc (.cells #[.slice a n c] 22)) w')
      rw [hbase] at hb0
      have HHD := Lib.hid (show (Sg.mk wd (S : Nat) (n : Nat) base [] hb0) = hd wd d S by unfold hd signR; simp only [HL.out, hbase]; rfl)
      have HBG := Lib.hid (built_sg wd (S : Nat) (n : Nat) base hb0)
      rw [HHD.out] at HBG
      obtain ⟨G, hG⟩ : ∃ G, hd wd d S = G := ⟨_, rfl⟩
      rw [hG] at HBG
      have HG := Lib.hid hG
      have HG36 := Lib.hid (show (G.cells none 0 0).toArray.size = 36 by simpa using G.len none 0 0)
      have HGA := Lib.hid (G.all none 0 0)
      clear hG hbase hx hok Bq
      go_upto_region 8 with (first
        | (go_at_call 41; refine (isWidth_any _ _).mono ?_; rintro e w1 ⟨rfl, hww⟩; have hww' := hww.symm; subst hww'; rw [hok1])
        | (go_at_call 42; refine (isSize_any _ _).mono ?_; rintro e w1 ⟨rfl, hww⟩; have hww' := hww.symm; subst hww'; rw [hok2])
        | (go_at_call 43; refine OF.out.mono ?_; rintro e w2 ⟨rfl, k2⟩)
        | (refine wpList_built4 rfl 29 (.tmp 33) (.tmp 34) (.tmp 36) (.tmp 40) rfl (.int .i64 wd) (.int .i64 S) (.int .i64 n) (.agg (bs base).toArray) rfl rfl rfl rfl (G.cells none 0 0).toArray HBG.out ?_)
        | (refine Dig.wpList_store_last rfl 29 (.tmp 8) (.tmp 41) rfl _ _ (G.cells none 0 0).toArray rfl rfl rfl (by rw [HG36.out]; rfl) (by rw [HG36.out]; rfl) HGA.out ?_)
        | fail)
      have B8 : Blk (w2.alloc (.cells (G.cells none 0 0).toArray 29)) w2.heap.size (G.cells none 0 0).toArray 29 := Blk.new _ _ _
      have k3 : Keep [] w2 (w2.alloc (.cells (G.cells none 0 0).toArray 29)) := (Keep.refl [] w2).alloc _
      have kk2 : Keep [] w w2 := ((k0.trans' kq).trans' k2)
      have B62 : Blk w2 p6 zc.toArray 29 := (B6.keep kq (by simp)).keep k2 (by simp)
      have hxB0 : InBytes w a n c d := HX0.out
      obtain ⟨W3, hW3⟩ : ∃ W, w2.alloc (.cells (G.cells none 0 0).toArray 29) = W := ⟨_, rfl⟩
      obtain ⟨p8, hp8⟩ : ∃ p, w2.heap.size = p := ⟨_, rfl⟩
      have h68 : p6 ≠ p8 := by have := B62.lt; omega
      have hw8 : w.heap.size ≤ p8 := by have := kk2.size; omega
      rw [hW3] at B8 k3 ⊢
      rw [hp8] at B8 ⊢
      have kk3 := kk2.trans' k3
      have B63 := B62.keep k3 (by simp)
      clear hW3 hp8 k3 B62 B6 k0 kk2
      go_upto_region 9 with fail
      go_loopw [9] (fun v9 wr => ∃ (k : Nat) (ao : Option Addr) (co : Nat), k ≤ Q ∧ v9 = .int .i64 ((k * S : Nat) : Int) ∧ Blk wr p8 (G.cells ao k co).toArray 29 ∧ Sl wr 45 33 (.slice ao k co) k (cellsW (signBl wd d S k)) ∧ Fr w [] (blks (.slice ao k co)) ∧ p8 ∉ blks (.slice ao k co) ∧ p6 ∉ blks (.slice ao k co) ∧ Blk wr p6 zc.toArray 29 ∧ Keep [] w wr) (fun v9 _ => n + 4097 - (intOf v9).toNat)
      case atStart => exact ⟨0, none, 0, by omega, by simp, B8, Sl.nil _ _ _, (by intro b hb; simp [blks, Value.ownBlock] at hb), by simp [blks, Value.ownBlock], by simp [blks, Value.ownBlock], B63, kk3⟩
      case round =>
        clear B8 B63 kk3
        obtain ⟨k, ao, co, hk, rfl, B8, sO, fO, h8O, h6O, B6, kk⟩ := hrel
        obtain ⟨o, ho⟩ : ∃ o, k * S = o := ⟨_, rfl⟩
        rw [ho]
        have hnx : (k + 1) * S = o + S := by rw [Nat.add_mul, Nat.one_mul, ho]
        have HO := Lib.hid ho
        have HNX := Lib.hid hnx
        have hlt : (k < Q) ↔ o + S ≤ n := by rw [← hnx, ← HQ.out, Nat.lt_iff_add_one_le, Nat.le_div_iff_mul_le (by omega)]
        clear ho hnx
        by_cases hq : k < Q
        · have i1 : o + S ≤ n := hlt.1 hq
          obtain ⟨b, off, rfl, hIn⟩ := in_part (hxB0.keep kk (by simp)) i1 (by omega)
          have j1 : (o : Int) + S ≤ c := by omega
          have j2 : (0 : Int) ≤ o := by omega
          have j3 : (o : Int) ≤ (o : Int) + S := by omega
          have j4 : ((o : Int) + S).toNat = o + S := by omega
          have j5 : o + S - o = S := by omega
          have j6 : ¬ c = o := by omega
          have j7 : (o : Int) + S ≤ n := by omega
          have j8 : (0 : Int) ≤ (o : Int) + S := by omega
          have HIN := Lib.hid hIn
          obtain ⟨xs, hxs⟩ : ∃ xs, (d.drop o).take S = xs := ⟨_, rfl⟩
          rw [hxs] at HIN
          obtain ⟨x, hx⟩ : ∃ x, blkAt wd d S k = x := ⟨_, rfl⟩
          obtain ⟨sm, hsm⟩ : ∃ z, Rol.sumOf xs = z := ⟨_, rfl⟩
          obtain ⟨xid, hxid⟩ : ∃ z, Dig.shaId wd xs = z := ⟨_, rfl⟩
          have hxl : xid.length = 32 := by rw [← hxid]; exact Dig.shaId_length _ _
          have HBU := Lib.hid (show Try.prog.built 45 [(0, .int .i64 sm), (1, .agg (bs xid).toArray)] = some x.cells.toArray by
            rw [built_wk sm xid hxl, ← hx]; congr 3; rw [Wk.eq_iff]; exact ⟨by show sm = Rol.sumOf ((d.drop (k * S)).take S); rw [HO.out, hxs, hsm], by show xid = Dig.shaId wd ((d.drop (k * S)).take S); rw [HO.out, hxs, hxid]⟩)
          have HBK := Lib.hid hx
          have SUM := Lib.hid (fun W' k' => by have := sumF_n (some ⟨b, off + o, none⟩) S (c - o) xs W' HIN.out.hlen (by omega) (HIN.out.rd.keep k' (by simp)); rw [hsm] at this; exact this : ∀ W', Keep [] wr W' → Calls Try.prog 44 #[.slice (some ⟨b, off + o, none⟩) S (c - o)] W' fun e w' => e = .returned (.int .i64 sm) ∧ Keep [] W' w')
          have OFC := Lib.hid (fun W' q k' hq => by have := of_one wd hq (HIN.out.keep k' (by simp)); rwa [hxid] at this : ∀ W' q, Keep [] wr W' → Blk W' q #[.slice (some ⟨b, off + o, none⟩) S (c - o)] 22 → Calls Try.prog 43 #[.int .i64 wd, .slice (some ⟨q, 0, none⟩) 1 1] W' fun e w' => e = .returned (.agg (bs xid).toArray) ∧ Keep [] W' w')
          have HB1 := Lib.hid (show (k + 1) * 40 ≤ 140737488355328 ∧ k + 1 ≤ maxLen by unfold maxLen; omega)
          have ke : Keep [] wr wr.drew := (Keep.refl [] wr).drew
          have B8 := B8.drew
          have sO := sO.keep ke (by simp)
          clear hsm hxid hx hIn hxl
          go_upto_region 12 with fail
          refine wp_region_noPanic ?_
          refine wp_region_held_drew (S := fun _ => True) (by kernel_rfl) ?_ (fun hHeld0 => ?_)
          · (try dsimp only); all_goals trivial
          refine wpAnyH_take (i := 0) (oi := ({ dst := some 57, op := .fieldAddr 29 (.tmp 8) 4, type := 0, pos := "delta.go:50", after := #[], guard := none } : Oper)) (v := ?_) rfl (by kernel_rfl) (by kernel_rfl) (by kernel_rfl) (fun _ _ _ h => h) (Or.inl ⟨by rfl, ?_⟩) (by assumption) ?_
          rotate_left
          · (intro w hSw; (try dsimp only at hSw); go_simp; try with_reducible rfl)
          try simp only [Act.put, List.setIfInBounds_toArray, List.set_cons_zero, List.set_cons_succ]
          refine wpAnyH_take (i := 2) (oi := ({ dst := some 59, op := .move (.tmp 10), type := 22, pos := "delta.go:50", after := #[], guard := none } : Oper)) (v := ?_) rfl (by kernel_rfl) (by kernel_rfl) (by kernel_rfl) (fun _ _ _ h => h) (Or.inl ⟨by rfl, ?_⟩) (by assumption) ?_
          rotate_left
          · (intro w hSw; (try dsimp only at hSw); go_simp; try with_reducible rfl)
          try simp only [Act.put, List.setIfInBounds_toArray, List.set_cons_zero, List.set_cons_succ]
          refine wpAnyH_take (i := 4) (oi := ({ dst := some 61, op := .move (.tmp 0), type := 3, pos := "delta.go:50", after := #[], guard := none } : Oper)) (v := ?_) rfl (by kernel_rfl) (by kernel_rfl) (by kernel_rfl) (fun _ _ _ h => h) (Or.inl ⟨by rfl, ?_⟩) (by assumption) ?_
          rotate_left
          · (intro w hSw; (try dsimp only at hSw); go_simp; try with_reducible rfl)
          try simp only [Act.put, List.setIfInBounds_toArray, List.set_cons_zero, List.set_cons_succ]
          refine wpAnyH_take (i := 5) (oi := ({ dst := some 62, op := .move (.tmp 10), type := 22, pos := "delta.go:50", after := #[], guard := none } : Oper)) (v := ?_) rfl (by kernel_rfl) (by kernel_rfl) (by kernel_rfl) (fun _ _ _ h => h) (Or.inl ⟨by rfl, ?_⟩) (by assumption) ?_
          rotate_left
          · (intro w hSw; (try dsimp only at hSw); go_simp; try with_reducible rfl)
          try simp only [Act.put, List.setIfInBounds_toArray, List.set_cons_zero, List.set_cons_succ]
          refine wpAnyH_ready (rs := [1, 3, 6]) (by kernel_rfl) (by simp) ?_
          refine (AllReadyH.cons (o := ({ dst := some 58, op := .load 27 (.tmp 57), type := 27, pos := "delta.go:50", after := #[{ on := 0, ground := .data }], guard := none } : Oper)) rfl (fun K hK => ?_) (AllReadyH.cons (o := ({ dst := some 60, op := .call { callee := .value (.func 44), args := #[.tmp 59], argTypes := #[22] }, type := 3, pos := "delta.go:50", after := #[{ on := 2, ground := .data }], guard := none } : Oper)) rfl (fun K hK => ?_) (AllReadyH.cons (o := ({ dst := some 63, op := .buildSlice 124 1 #[(0, .tmp 62)], type := 124, pos := "delta.go:50", after := #[{ on := 5, ground := .data }], guard := none } : Oper)) rfl (fun K hK => ?_) AllReadyH.nil)))
          · (have c35 := sg_blocks B8; go_simp; clear c35)
            refine hK.out _ _ ?_ (fun hHeld1 => ?_)
            · (try dsimp only); all_goals trivial
            clear hK K
            try simp only [Act.put, List.setIfInBounds_toArray, List.set_cons_zero, List.set_cons_succ]
            refine wpAnyH_ready (rs := [3, 6]) (by kernel_rfl) (by simp) ?_
            refine (AllReadyH.cons (o := ({ dst := some 60, op := .call { callee := .value (.func 44), args := #[.tmp 59], argTypes := #[22] }, type := 3, pos := "delta.go:50", after := #[{ on := 2, ground := .data }], guard := none } : Oper)) rfl (fun K hK => ?_) (AllReadyH.cons (o := ({ dst := some 63, op := .buildSlice 124 1 #[(0, .tmp 62)], type := 124, pos := "delta.go:50", after := #[{ on := 5, ground := .data }], guard := none } : Oper)) rfl (fun K hK => ?_) AllReadyH.nil))
            · go_simp
              (refine (SUM.out _ ke).mono ?_; rintro e w' ⟨rfl, kn⟩; have ke := ke.trans' kn; have B8 := B8.keep kn (by simp); have sO := sO.keep kn (by simp); (first | (have Bq := Bq.keep kn (by simp)) | skip))
              go_wp2_with fail
              refine hK.out _ _ ?_ (fun hHeld2 => ?_)
              · (try dsimp only); all_goals trivial
              clear hK K
              try simp only [Act.put, List.setIfInBounds_toArray, List.set_cons_zero, List.set_cons_succ]
              refine wpAnyH_ready (rs := [6]) (by kernel_rfl) (by simp) ?_
              refine (AllReadyH.cons (o := ({ dst := some 63, op := .buildSlice 124 1 #[(0, .tmp 62)], type := 124, pos := "delta.go:50", after := #[{ on := 5, ground := .data }], guard := none } : Oper)) rfl (fun K hK => ?_) AllReadyH.nil)
              (refine step_buildS rfl (.tmp 62) rfl (some ⟨b, off + o, none⟩) S (c - o) rfl ?_; intro q wN hqq Bqn kn; have ke := ke.trans' kn; have B8 := B8.keep kn (by simp); have sO := sO.keep kn (by simp); have Bq := Bqn)
              refine hK.out _ _ ?_ (fun hHeld3 => ?_)
              · (try dsimp only); all_goals trivial
              clear hK K
              try simp only [Act.put, List.setIfInBounds_toArray, List.set_cons_zero, List.set_cons_succ]
              refine wpAnyH_ready (rs := [7]) (by kernel_rfl) (by simp) ?_
              refine (AllReadyH.cons (o := ({ dst := some 64, op := .call { callee := .value (.func 43), args := #[.tmp 61, .tmp 63], argTypes := #[3, 124] }, type := 26, pos := "delta.go:50", after := #[{ on := 4, ground := .data }, { on := 6, ground := .data }, { on := 3, ground := .chain }], guard := none } : Oper)) rfl (fun K hK => ?_) AllReadyH.nil)
              go_simp
              (refine (OFC.out _ q ke Bq).mono ?_; rintro e w' ⟨rfl, kn⟩; have ke := ke.trans' kn; have B8 := B8.keep kn (by simp); have sO := sO.keep kn (by simp); (first | (have Bq := Bq.keep kn (by simp)) | skip))
              go_wp2_with fail
              refine hK.out _ _ ?_ (fun hHeld4 => ?_)
              · (try dsimp only); all_goals trivial
              clear hK K
              try simp only [Act.put, List.setIfInBounds_toArray, List.set_cons_zero, List.set_cons_succ]
              refine wpAnyH_ready (rs := [8]) (by kernel_rfl) (by simp) ?_
              refine (AllReadyH.cons (o := ({ dst := some 65, op := .build 45 #[(0, .tmp 60), (1, .tmp 64)], type := 45, pos := "delta.go:50", after := #[{ on := 3, ground := .data }, { on := 7, ground := .data }], guard := none } : Oper)) rfl (fun K hK => ?_) AllReadyH.nil)
              (refine step_built2 rfl 45 (.tmp 60) (.tmp 64) rfl (.int .i64 sm) (.agg (bs xid).toArray) rfl rfl x.cells.toArray HBU.out ?_)
              refine hK.out _ _ ?_ (fun hHeld5 => ?_)
              · (try dsimp only); all_goals trivial
              clear hK K
              try simp only [Act.put, List.setIfInBounds_toArray, List.set_cons_zero, List.set_cons_succ]
              refine wpAnyH_ready (rs := [9]) (by kernel_rfl) (by simp) ?_
              refine (AllReadyH.cons (o := ({ dst := some 66, op := .buildSlice 27 1 #[(0, .tmp 65)], type := 27, pos := "delta.go:50", after := #[{ on := 8, ground := .data }], guard := none } : Oper)) rfl (fun K hK => ?_) AllReadyH.nil)
              (refine step_buildW rfl (.tmp 65) rfl x rfl ?_; intro q2 wN hq2 r2 kn; have ke := ke.trans' kn; have B8 := B8.keep kn (by simp); have sO := sO.keep kn (by simp))
              refine hK.out _ _ ?_ (fun hHeld6 => ?_)
              · (try dsimp only); all_goals trivial
              clear hK K
              try simp only [Act.put, List.setIfInBounds_toArray, List.set_cons_zero, List.set_cons_succ]
              refine wpAnyH_ready (rs := [10]) (by kernel_rfl) (by simp) ?_
              refine (AllReadyH.cons (o := ({ dst := some 67, op := .call { callee := .builtin .append, args := #[.tmp 58, .tmp 66], argTypes := #[27, 27] }, type := 27, pos := "delta.go:50", after := #[{ on := 1, ground := .data }, { on := 9, ground := .data }, { on := 7, ground := .chain }], guard := none } : Oper)) rfl (fun K hK => ?_) AllReadyH.nil)
              (refine step_appendN rfl (.tmp 58) (.tmp 66) 27 rfl 45 _ 33 40 Try.underlying27 info45 zeroC45 (by omega) (.slice ao k co) k (cellsW (signBl wd d S k)) rfl sO (some ⟨q2, 0, none⟩) 1 1 x.cells rfl (wk_len1 x) (by simp) r2 x.one HB1.out.2 HB1.out.1 ?_; intro a6 c6 w6 hs6 hk6 hf6; have B8k := B8; have B8 := B8.keep hk6 h8O)
              refine hK.out _ _ ?_ (fun hHeld7 => ?_)
              · (try dsimp only); all_goals trivial
              clear hK K
              try simp only [Act.put, List.setIfInBounds_toArray, List.set_cons_zero, List.set_cons_succ]
              refine wpAnyH_take (i := 11) (oi := ({ dst := some 68, op := .fieldAddr 29 (.tmp 8) 4, type := 0, pos := "delta.go:50", after := #[{ on := 0, ground := .phase }, { on := 1, ground := .phase }, { on := 2, ground := .phase }, { on := 3, ground := .phase }, { on := 4, ground := .phase }, { on := 5, ground := .phase }, { on := 6, ground := .phase }, { on := 7, ground := .phase }, { on := 8, ground := .phase }, { on := 9, ground := .phase }, { on := 10, ground := .phase }], guard := none } : Oper)) (v := ?_) rfl (by kernel_rfl) (by kernel_rfl) (by kernel_rfl) (fun _ _ _ h => h) (Or.inl ⟨by rfl, ?_⟩) (by assumption) ?_
              rotate_left
              · (intro w hSw; (try dsimp only at hSw); go_simp; try with_reducible rfl)
              try simp only [Act.put, List.setIfInBounds_toArray, List.set_cons_zero, List.set_cons_succ]
              refine wpAnyH_ready (rs := [12]) (by kernel_rfl) (by simp) ?_
              refine (AllReadyH.cons (o := ({ dst := none, op := .store 27 (.tmp 68) (.tmp 67), type := 0, pos := "delta.go:50", after := #[{ on := 11, ground := .data }, { on := 10, ground := .data }, { on := 10, ground := .chain }, { on := 0, ground := .phase }, { on := 1, ground := .phase }, { on := 2, ground := .phase }, { on := 3, ground := .phase }, { on := 4, ground := .phase }, { on := 5, ground := .phase }, { on := 6, ground := .phase }, { on := 7, ground := .phase }, { on := 8, ground := .phase }, { on := 9, ground := .phase }, { on := 10, ground := .phase }], guard := none } : Oper)) rfl (fun K hK => ?_) AllReadyH.nil)
              (have c35 := sg_blocks B8; have f35 := B8.free (i := 35); go_simp; clear c35 f35)
              refine hK.out _ _ ?_ (fun hHeld8 => ?_)
              · (try dsimp only); all_goals trivial
              clear hK K
              try simp only [Act.put, List.setIfInBounds_toArray, List.set_cons_zero, List.set_cons_succ]
              refine wpAnyH_done (by kernel_rfl) ?_ _
              refine NoPanic.normal ?_
              have B8f := B8.set 35 (.slice a6 (k + 1) c6)
              rw [sg_set35] at B8f
              have ks : Keep [p8] w6 (w6.setCell ⟨p8, 35, none⟩ (.slice a6 (k + 1) c6)) := Keep.set_one w6 ⟨p8, 35, none⟩ _
              have hw6z : p8 < w6.heap.size := B8.lt
              have kke := kk.trans' ke
              have hk6w : Keep [] w w6 := kke.trans hk6 (fun b hb => by rcases fO b hb with h | h; cases h; exact Or.inr h)
              have F6 := fO.trans hf6 kke.size
              have hp8N : p8 ∉ blks (.slice a6 (k + 1) c6) := fun hb => by rcases hf6 p8 hb with h | h; exact h8O h; have := B8k.lt; omega
              have hp6N : p6 ∉ blks (.slice a6 (k + 1) c6) := fun hb => by rcases hf6 p6 hb with h | h; exact h6O h; have := (B6.keep ke (by simp)).lt; omega
              have B6f := ((B6.keep ke (by simp)).keep hk6 h6O).keep ks (by simpa using h68)
              have hs6f := hs6.keep ks (fun b hb hb' => by simp only [List.mem_singleton] at hb'; subst hb'; exact hp8N hb)
              have hkf : Keep [] w (w6.setCell ⟨p8, 35, none⟩ (.slice a6 (k + 1) c6)) := hk6w.trans ks (fun b hb => by simp only [List.mem_singleton] at hb; subst hb; exact Or.inr hw8)
              have hcl : cellsW (signBl wd d S k) ++ x.cells = cellsW (signBl wd d S (k + 1)) := by rw [signBl_succ, cellsW_append, cellsW_one, HBK.out]
              rw [hcl] at hs6f
              have HFIN := Lib.hid (And.intro B8f (And.intro hs6f (And.intro F6 (And.intro hp8N (And.intro hp6N (And.intro B6f hkf))))))
              clear B8f hs6f F6 hp8N hp6N B6f hkf hcl hs6 hk6 hf6 ks hk6w B8 B6 sO B8k
              go_wp2_with fail
              exact ⟨⟨k + 1, a6, c6, by omega, by rw [HNX.out]; go_num, HFIN.out.1, HFIN.out.2.1, HFIN.out.2.2.1, HFIN.out.2.2.2.1, HFIN.out.2.2.2.2.1, HFIN.out.2.2.2.2.2.1, HFIN.out.2.2.2.2.2.2⟩, by simp [intOf]; omega⟩
            · (refine step_buildS rfl (.tmp 62) rfl (some ⟨b, off + o, none⟩) S (c - o) rfl ?_; intro q wN hqq Bqn kn; have ke := ke.trans' kn; have B8 := B8.keep kn (by simp); have sO := sO.keep kn (by simp); have Bq := Bqn)
              refine hK.out _ _ ?_ (fun hHeld8 => ?_)
              · (try dsimp only); all_goals trivial
              clear hK K
              try simp only [Act.put, List.setIfInBounds_toArray, List.set_cons_zero, List.set_cons_succ]
              refine wpAnyH_ready (rs := [3]) (by kernel_rfl) (by simp) ?_
              refine (AllReadyH.cons (o := ({ dst := some 60, op := .call { callee := .value (.func 44), args := #[.tmp 59], argTypes := #[22] }, type := 3, pos := "delta.go:50", after := #[{ on := 2, ground := .data }], guard := none } : Oper)) rfl (fun K hK => ?_) AllReadyH.nil)
              go_simp
              (refine (SUM.out _ ke).mono ?_; rintro e w' ⟨rfl, kn⟩; have ke := ke.trans' kn; have B8 := B8.keep kn (by simp); have sO := sO.keep kn (by simp); (first | (have Bq := Bq.keep kn (by simp)) | skip))
              go_wp2_with fail
              refine hK.out _ _ ?_ (fun hHeld9 => ?_)
              · (try dsimp only); all_goals trivial
              clear hK K
              try simp only [Act.put, List.setIfInBounds_toArray, List.set_cons_zero, List.set_cons_succ]
              refine wpAnyH_ready (rs := [7]) (by kernel_rfl) (by simp) ?_
              refine (AllReadyH.cons (o := ({ dst := some 64, op := .call { callee := .value (.func 43), args := #[.tmp 61, .tmp 63], argTypes := #[3, 124] }, type := 26, pos := "delta.go:50", after := #[{ on := 4, ground := .data }, { on := 6, ground := .data }, { on := 3, ground := .chain }], guard := none } : Oper)) rfl (fun K hK => ?_) AllReadyH.nil)
              go_simp
              (refine (OFC.out _ q ke Bq).mono ?_; rintro e w' ⟨rfl, kn⟩; have ke := ke.trans' kn; have B8 := B8.keep kn (by simp); have sO := sO.keep kn (by simp); (first | (have Bq := Bq.keep kn (by simp)) | skip))
              go_wp2_with fail
              refine hK.out _ _ ?_ (fun hHeld10 => ?_)
              · (try dsimp only); all_goals trivial
              clear hK K
              try simp only [Act.put, List.setIfInBounds_toArray, List.set_cons_zero, List.set_cons_succ]
              refine wpAnyH_ready (rs := [8]) (by kernel_rfl) (by simp) ?_
              refine (AllReadyH.cons (o := ({ dst := some 65, op := .build 45 #[(0, .tmp 60), (1, .tmp 64)], type := 45, pos := "delta.go:50", after := #[{ on := 3, ground := .data }, { on := 7, ground := .data }], guard := none } : Oper)) rfl (fun K hK => ?_) AllReadyH.nil)
              (refine step_built2 rfl 45 (.tmp 60) (.tmp 64) rfl (.int .i64 sm) (.agg (bs xid).toArray) rfl rfl x.cells.toArray HBU.out ?_)
              refine hK.out _ _ ?_ (fun hHeld11 => ?_)
              · (try dsimp only); all_goals trivial
              clear hK K
              try simp only [Act.put, List.setIfInBounds_toArray, List.set_cons_zero, List.set_cons_succ]
              refine wpAnyH_ready (rs := [9]) (by kernel_rfl) (by simp) ?_
              refine (AllReadyH.cons (o := ({ dst := some 66, op := .buildSlice 27 1 #[(0, .tmp 65)], type := 27, pos := "delta.go:50", after := #[{ on := 8, ground := .data }], guard := none } : Oper)) rfl (fun K hK => ?_) AllReadyH.nil)
              (refine step_buildW rfl (.tmp 65) rfl x rfl ?_; intro q2 wN hq2 r2 kn; have ke := ke.trans' kn; have B8 := B8.keep kn (by simp); have sO := sO.keep kn (by simp))
              refine hK.out _ _ ?_ (fun hHeld12 => ?_)
              · (try dsimp only); all_goals trivial
              clear hK K
              try simp only [Act.put, List.setIfInBounds_toArray, List.set_cons_zero, List.set_cons_succ]
              refine wpAnyH_ready (rs := [10]) (by kernel_rfl) (by simp) ?_
              refine (AllReadyH.cons (o := ({ dst := some 67, op := .call { callee := .builtin .append, args := #[.tmp 58, .tmp 66], argTypes := #[27, 27] }, type := 27, pos := "delta.go:50", after := #[{ on := 1, ground := .data }, { on := 9, ground := .data }, { on := 7, ground := .chain }], guard := none } : Oper)) rfl (fun K hK => ?_) AllReadyH.nil)
              (refine step_appendN rfl (.tmp 58) (.tmp 66) 27 rfl 45 _ 33 40 Try.underlying27 info45 zeroC45 (by omega) (.slice ao k co) k (cellsW (signBl wd d S k)) rfl sO (some ⟨q2, 0, none⟩) 1 1 x.cells rfl (wk_len1 x) (by simp) r2 x.one HB1.out.2 HB1.out.1 ?_; intro a6 c6 w6 hs6 hk6 hf6; have B8k := B8; have B8 := B8.keep hk6 h8O)
              refine hK.out _ _ ?_ (fun hHeld13 => ?_)
              · (try dsimp only); all_goals trivial
              clear hK K
              try simp only [Act.put, List.setIfInBounds_toArray, List.set_cons_zero, List.set_cons_succ]
              refine wpAnyH_take (i := 11) (oi := ({ dst := some 68, op := .fieldAddr 29 (.tmp 8) 4, type := 0, pos := "delta.go:50", after := #[{ on := 0, ground := .phase }, { on := 1, ground := .phase }, { on := 2, ground := .phase }, { on := 3, ground := .phase }, { on := 4, ground := .phase }, { on := 5, ground := .phase }, { on := 6, ground := .phase }, { on := 7, ground := .phase }, { on := 8, ground := .phase }, { on := 9, ground := .phase }, { on := 10, ground := .phase }], guard := none } : Oper)) (v := ?_) rfl (by kernel_rfl) (by kernel_rfl) (by kernel_rfl) (fun _ _ _ h => h) (Or.inl ⟨by rfl, ?_⟩) (by assumption) ?_
              rotate_left
              · (intro w hSw; (try dsimp only at hSw); go_simp; try with_reducible rfl)
              try simp only [Act.put, List.setIfInBounds_toArray, List.set_cons_zero, List.set_cons_succ]
              refine wpAnyH_ready (rs := [12]) (by kernel_rfl) (by simp) ?_
              refine (AllReadyH.cons (o := ({ dst := none, op := .store 27 (.tmp 68) (.tmp 67), type := 0, pos := "delta.go:50", after := #[{ on := 11, ground := .data }, { on := 10, ground := .data }, { on := 10, ground := .chain }, { on := 0, ground := .phase }, { on := 1, ground := .phase }, { on := 2, ground := .phase }, { on := 3, ground := .phase }, { on := 4, ground := .phase }, { on := 5, ground := .phase }, { on := 6, ground := .phase }, { on := 7, ground := .phase }, { on := 8, ground := .phase }, { on := 9, ground := .phase }, { on := 10, ground := .phase }], guard := none } : Oper)) rfl (fun K hK => ?_) AllReadyH.nil)
              (have c35 := sg_blocks B8; have f35 := B8.free (i := 35); go_simp; clear c35 f35)
              refine hK.out _ _ ?_ (fun hHeld14 => ?_)
              · (try dsimp only); all_goals trivial
              clear hK K
              try simp only [Act.put, List.setIfInBounds_toArray, List.set_cons_zero, List.set_cons_succ]
              refine wpAnyH_done (by kernel_rfl) ?_ _
              refine NoPanic.normal ?_
              have B8f := B8.set 35 (.slice a6 (k + 1) c6)
              rw [sg_set35] at B8f
              have ks : Keep [p8] w6 (w6.setCell ⟨p8, 35, none⟩ (.slice a6 (k + 1) c6)) := Keep.set_one w6 ⟨p8, 35, none⟩ _
              have hw6z : p8 < w6.heap.size := B8.lt
              have kke := kk.trans' ke
              have hk6w : Keep [] w w6 := kke.trans hk6 (fun b hb => by rcases fO b hb with h | h; cases h; exact Or.inr h)
              have F6 := fO.trans hf6 kke.size
              have hp8N : p8 ∉ blks (.slice a6 (k + 1) c6) := fun hb => by rcases hf6 p8 hb with h | h; exact h8O h; have := B8k.lt; omega
              have hp6N : p6 ∉ blks (.slice a6 (k + 1) c6) := fun hb => by rcases hf6 p6 hb with h | h; exact h6O h; have := (B6.keep ke (by simp)).lt; omega
              have B6f := ((B6.keep ke (by simp)).keep hk6 h6O).keep ks (by simpa using h68)
              have hs6f := hs6.keep ks (fun b hb hb' => by simp only [List.mem_singleton] at hb'; subst hb'; exact hp8N hb)
              have hkf : Keep [] w (w6.setCell ⟨p8, 35, none⟩ (.slice a6 (k + 1) c6)) := hk6w.trans ks (fun b hb => by simp only [List.mem_singleton] at hb; subst hb; exact Or.inr hw8)
              have hcl : cellsW (signBl wd d S k) ++ x.cells = cellsW (signBl wd d S (k + 1)) := by rw [signBl_succ, cellsW_append, cellsW_one, HBK.out]
              rw [hcl] at hs6f
              have HFIN := Lib.hid (And.intro B8f (And.intro hs6f (And.intro F6 (And.intro hp8N (And.intro hp6N (And.intro B6f hkf))))))
              clear B8f hs6f F6 hp8N hp6N B6f hkf hcl hs6 hk6 hf6 ks hk6w B8 B6 sO B8k
              go_wp2_with fail
              exact ⟨⟨k + 1, a6, c6, by omega, by rw [HNX.out]; go_num, HFIN.out.1, HFIN.out.2.1, HFIN.out.2.2.1, HFIN.out.2.2.2.1, HFIN.out.2.2.2.2.1, HFIN.out.2.2.2.2.2.1, HFIN.out.2.2.2.2.2.2⟩, by simp [intOf]; omega⟩
          · go_simp
            (refine (SUM.out _ ke).mono ?_; rintro e w' ⟨rfl, kn⟩; have ke := ke.trans' kn; have B8 := B8.keep kn (by simp); have sO := sO.keep kn (by simp); (first | (have Bq := Bq.keep kn (by simp)) | skip))
            go_wp2_with fail
            refine hK.out _ _ ?_ (fun hHeld14 => ?_)
            · (try dsimp only); all_goals trivial
            clear hK K
            try simp only [Act.put, List.setIfInBounds_toArray, List.set_cons_zero, List.set_cons_succ]
            refine wpAnyH_ready (rs := [1, 6]) (by kernel_rfl) (by simp) ?_
            refine (AllReadyH.cons (o := ({ dst := some 58, op := .load 27 (.tmp 57), type := 27, pos := "delta.go:50", after := #[{ on := 0, ground := .data }], guard := none } : Oper)) rfl (fun K hK => ?_) (AllReadyH.cons (o := ({ dst := some 63, op := .buildSlice 124 1 #[(0, .tmp 62)], type := 124, pos := "delta.go:50", after := #[{ on := 5, ground := .data }], guard := none } : Oper)) rfl (fun K hK => ?_) AllReadyH.nil))
            · (have c35 := sg_blocks B8; go_simp; clear c35)
              refine hK.out _ _ ?_ (fun hHeld15 => ?_)
              · (try dsimp only); all_goals trivial
              clear hK K
              try simp only [Act.put, List.setIfInBounds_toArray, List.set_cons_zero, List.set_cons_succ]
              refine wpAnyH_ready (rs := [6]) (by kernel_rfl) (by simp) ?_
              refine (AllReadyH.cons (o := ({ dst := some 63, op := .buildSlice 124 1 #[(0, .tmp 62)], type := 124, pos := "delta.go:50", after := #[{ on := 5, ground := .data }], guard := none } : Oper)) rfl (fun K hK => ?_) AllReadyH.nil)
              (refine step_buildS rfl (.tmp 62) rfl (some ⟨b, off + o, none⟩) S (c - o) rfl ?_; intro q wN hqq Bqn kn; have ke := ke.trans' kn; have B8 := B8.keep kn (by simp); have sO := sO.keep kn (by simp); have Bq := Bqn)
              refine hK.out _ _ ?_ (fun hHeld16 => ?_)
              · (try dsimp only); all_goals trivial
              clear hK K
              try simp only [Act.put, List.setIfInBounds_toArray, List.set_cons_zero, List.set_cons_succ]
              refine wpAnyH_ready (rs := [7]) (by kernel_rfl) (by simp) ?_
              refine (AllReadyH.cons (o := ({ dst := some 64, op := .call { callee := .value (.func 43), args := #[.tmp 61, .tmp 63], argTypes := #[3, 124] }, type := 26, pos := "delta.go:50", after := #[{ on := 4, ground := .data }, { on := 6, ground := .data }, { on := 3, ground := .chain }], guard := none } : Oper)) rfl (fun K hK => ?_) AllReadyH.nil)
              go_simp
              (refine (OFC.out _ q ke Bq).mono ?_; rintro e w' ⟨rfl, kn⟩; have ke := ke.trans' kn; have B8 := B8.keep kn (by simp); have sO := sO.keep kn (by simp); (first | (have Bq := Bq.keep kn (by simp)) | skip))
              go_wp2_with fail
              refine hK.out _ _ ?_ (fun hHeld17 => ?_)
              · (try dsimp only); all_goals trivial
              clear hK K
              try simp only [Act.put, List.setIfInBounds_toArray, List.set_cons_zero, List.set_cons_succ]
              refine wpAnyH_ready (rs := [8]) (by kernel_rfl) (by simp) ?_
              refine (AllReadyH.cons (o := ({ dst := some 65, op := .build 45 #[(0, .tmp 60), (1, .tmp 64)], type := 45, pos := "delta.go:50", after := #[{ on := 3, ground := .data }, { on := 7, ground := .data }], guard := none } : Oper)) rfl (fun K hK => ?_) AllReadyH.nil)
              (refine step_built2 rfl 45 (.tmp 60) (.tmp 64) rfl (.int .i64 sm) (.agg (bs xid).toArray) rfl rfl x.cells.toArray HBU.out ?_)
              refine hK.out _ _ ?_ (fun hHeld18 => ?_)
              · (try dsimp only); all_goals trivial
              clear hK K
              try simp only [Act.put, List.setIfInBounds_toArray, List.set_cons_zero, List.set_cons_succ]
              refine wpAnyH_ready (rs := [9]) (by kernel_rfl) (by simp) ?_
              refine (AllReadyH.cons (o := ({ dst := some 66, op := .buildSlice 27 1 #[(0, .tmp 65)], type := 27, pos := "delta.go:50", after := #[{ on := 8, ground := .data }], guard := none } : Oper)) rfl (fun K hK => ?_) AllReadyH.nil)
              (refine step_buildW rfl (.tmp 65) rfl x rfl ?_; intro q2 wN hq2 r2 kn; have ke := ke.trans' kn; have B8 := B8.keep kn (by simp); have sO := sO.keep kn (by simp))
              refine hK.out _ _ ?_ (fun hHeld19 => ?_)
              · (try dsimp only); all_goals trivial
              clear hK K
              try simp only [Act.put, List.setIfInBounds_toArray, List.set_cons_zero, List.set_cons_succ]
              refine wpAnyH_ready (rs := [10]) (by kernel_rfl) (by simp) ?_
              refine (AllReadyH.cons (o := ({ dst := some 67, op := .call { callee := .builtin .append, args := #[.tmp 58, .tmp 66], argTypes := #[27, 27] }, type := 27, pos := "delta.go:50", after := #[{ on := 1, ground := .data }, { on := 9, ground := .data }, { on := 7, ground := .chain }], guard := none } : Oper)) rfl (fun K hK => ?_) AllReadyH.nil)
              (refine step_appendN rfl (.tmp 58) (.tmp 66) 27 rfl 45 _ 33 40 Try.underlying27 info45 zeroC45 (by omega) (.slice ao k co) k (cellsW (signBl wd d S k)) rfl sO (some ⟨q2, 0, none⟩) 1 1 x.cells rfl (wk_len1 x) (by simp) r2 x.one HB1.out.2 HB1.out.1 ?_; intro a6 c6 w6 hs6 hk6 hf6; have B8k := B8; have B8 := B8.keep hk6 h8O)
              refine hK.out _ _ ?_ (fun hHeld20 => ?_)
              · (try dsimp only); all_goals trivial
              clear hK K
              try simp only [Act.put, List.setIfInBounds_toArray, List.set_cons_zero, List.set_cons_succ]
              refine wpAnyH_take (i := 11) (oi := ({ dst := some 68, op := .fieldAddr 29 (.tmp 8) 4, type := 0, pos := "delta.go:50", after := #[{ on := 0, ground := .phase }, { on := 1, ground := .phase }, { on := 2, ground := .phase }, { on := 3, ground := .phase }, { on := 4, ground := .phase }, { on := 5, ground := .phase }, { on := 6, ground := .phase }, { on := 7, ground := .phase }, { on := 8, ground := .phase }, { on := 9, ground := .phase }, { on := 10, ground := .phase }], guard := none } : Oper)) (v := ?_) rfl (by kernel_rfl) (by kernel_rfl) (by kernel_rfl) (fun _ _ _ h => h) (Or.inl ⟨by rfl, ?_⟩) (by assumption) ?_
              rotate_left
              · (intro w hSw; (try dsimp only at hSw); go_simp; try with_reducible rfl)
              try simp only [Act.put, List.setIfInBounds_toArray, List.set_cons_zero, List.set_cons_succ]
              refine wpAnyH_ready (rs := [12]) (by kernel_rfl) (by simp) ?_
              refine (AllReadyH.cons (o := ({ dst := none, op := .store 27 (.tmp 68) (.tmp 67), type := 0, pos := "delta.go:50", after := #[{ on := 11, ground := .data }, { on := 10, ground := .data }, { on := 10, ground := .chain }, { on := 0, ground := .phase }, { on := 1, ground := .phase }, { on := 2, ground := .phase }, { on := 3, ground := .phase }, { on := 4, ground := .phase }, { on := 5, ground := .phase }, { on := 6, ground := .phase }, { on := 7, ground := .phase }, { on := 8, ground := .phase }, { on := 9, ground := .phase }, { on := 10, ground := .phase }], guard := none } : Oper)) rfl (fun K hK => ?_) AllReadyH.nil)
              (have c35 := sg_blocks B8; have f35 := B8.free (i := 35); go_simp; clear c35 f35)
              refine hK.out _ _ ?_ (fun hHeld21 => ?_)
              · (try dsimp only); all_goals trivial
              clear hK K
              try simp only [Act.put, List.setIfInBounds_toArray, List.set_cons_zero, List.set_cons_succ]
              refine wpAnyH_done (by kernel_rfl) ?_ _
              refine NoPanic.normal ?_
              have B8f := B8.set 35 (.slice a6 (k + 1) c6)
              rw [sg_set35] at B8f
              have ks : Keep [p8] w6 (w6.setCell ⟨p8, 35, none⟩ (.slice a6 (k + 1) c6)) := Keep.set_one w6 ⟨p8, 35, none⟩ _
              have hw6z : p8 < w6.heap.size := B8.lt
              have kke := kk.trans' ke
              have hk6w : Keep [] w w6 := kke.trans hk6 (fun b hb => by rcases fO b hb with h | h; cases h; exact Or.inr h)
              have F6 := fO.trans hf6 kke.size
              have hp8N : p8 ∉ blks (.slice a6 (k + 1) c6) := fun hb => by rcases hf6 p8 hb with h | h; exact h8O h; have := B8k.lt; omega
              have hp6N : p6 ∉ blks (.slice a6 (k + 1) c6) := fun hb => by rcases hf6 p6 hb with h | h; exact h6O h; have := (B6.keep ke (by simp)).lt; omega
              have B6f := ((B6.keep ke (by simp)).keep hk6 h6O).keep ks (by simpa using h68)
              have hs6f := hs6.keep ks (fun b hb hb' => by simp only [List.mem_singleton] at hb'; subst hb'; exact hp8N hb)
              have hkf : Keep [] w (w6.setCell ⟨p8, 35, none⟩ (.slice a6 (k + 1) c6)) := hk6w.trans ks (fun b hb => by simp only [List.mem_singleton] at hb; subst hb; exact Or.inr hw8)
              have hcl : cellsW (signBl wd d S k) ++ x.cells = cellsW (signBl wd d S (k + 1)) := by rw [signBl_succ, cellsW_append, cellsW_one, HBK.out]
              rw [hcl] at hs6f
              have HFIN := Lib.hid (And.intro B8f (And.intro hs6f (And.intro F6 (And.intro hp8N (And.intro hp6N (And.intro B6f hkf))))))
              clear B8f hs6f F6 hp8N hp6N B6f hkf hcl hs6 hk6 hf6 ks hk6w B8 B6 sO B8k
              go_wp2_with fail
              exact ⟨⟨k + 1, a6, c6, by omega, by rw [HNX.out]; go_num, HFIN.out.1, HFIN.out.2.1, HFIN.out.2.2.1, HFIN.out.2.2.2.1, HFIN.out.2.2.2.2.1, HFIN.out.2.2.2.2.2.1, HFIN.out.2.2.2.2.2.2⟩, by simp [intOf]; omega⟩
            · (refine step_buildS rfl (.tmp 62) rfl (some ⟨b, off + o, none⟩) S (c - o) rfl ?_; intro q wN hqq Bqn kn; have ke := ke.trans' kn; have B8 := B8.keep kn (by simp); have sO := sO.keep kn (by simp); have Bq := Bqn)
              refine hK.out _ _ ?_ (fun hHeld21 => ?_)
              · (try dsimp only); all_goals trivial
              clear hK K
              try simp only [Act.put, List.setIfInBounds_toArray, List.set_cons_zero, List.set_cons_succ]
              refine wpAnyH_ready (rs := [1, 7]) (by kernel_rfl) (by simp) ?_
              refine (AllReadyH.cons (o := ({ dst := some 58, op := .load 27 (.tmp 57), type := 27, pos := "delta.go:50", after := #[{ on := 0, ground := .data }], guard := none } : Oper)) rfl (fun K hK => ?_) (AllReadyH.cons (o := ({ dst := some 64, op := .call { callee := .value (.func 43), args := #[.tmp 61, .tmp 63], argTypes := #[3, 124] }, type := 26, pos := "delta.go:50", after := #[{ on := 4, ground := .data }, { on := 6, ground := .data }, { on := 3, ground := .chain }], guard := none } : Oper)) rfl (fun K hK => ?_) AllReadyH.nil))
              · (have c35 := sg_blocks B8; go_simp; clear c35)
                refine hK.out _ _ ?_ (fun hHeld22 => ?_)
                · (try dsimp only); all_goals trivial
                clear hK K
                try simp only [Act.put, List.setIfInBounds_toArray, List.set_cons_zero, List.set_cons_succ]
                refine wpAnyH_ready (rs := [7]) (by kernel_rfl) (by simp) ?_
                refine (AllReadyH.cons (o := ({ dst := some 64, op := .call { callee := .value (.func 43), args := #[.tmp 61, .tmp 63], argTypes := #[3, 124] }, type := 26, pos := "delta.go:50", after := #[{ on := 4, ground := .data }, { on := 6, ground := .data }, { on := 3, ground := .chain }], guard := none } : Oper)) rfl (fun K hK => ?_) AllReadyH.nil)
                go_simp
                (refine (OFC.out _ q ke Bq).mono ?_; rintro e w' ⟨rfl, kn⟩; have ke := ke.trans' kn; have B8 := B8.keep kn (by simp); have sO := sO.keep kn (by simp); (first | (have Bq := Bq.keep kn (by simp)) | skip))
                go_wp2_with fail
                refine hK.out _ _ ?_ (fun hHeld23 => ?_)
                · (try dsimp only); all_goals trivial
                clear hK K
                try simp only [Act.put, List.setIfInBounds_toArray, List.set_cons_zero, List.set_cons_succ]
                refine wpAnyH_ready (rs := [8]) (by kernel_rfl) (by simp) ?_
                refine (AllReadyH.cons (o := ({ dst := some 65, op := .build 45 #[(0, .tmp 60), (1, .tmp 64)], type := 45, pos := "delta.go:50", after := #[{ on := 3, ground := .data }, { on := 7, ground := .data }], guard := none } : Oper)) rfl (fun K hK => ?_) AllReadyH.nil)
                (refine step_built2 rfl 45 (.tmp 60) (.tmp 64) rfl (.int .i64 sm) (.agg (bs xid).toArray) rfl rfl x.cells.toArray HBU.out ?_)
                refine hK.out _ _ ?_ (fun hHeld24 => ?_)
                · (try dsimp only); all_goals trivial
                clear hK K
                try simp only [Act.put, List.setIfInBounds_toArray, List.set_cons_zero, List.set_cons_succ]
                refine wpAnyH_ready (rs := [9]) (by kernel_rfl) (by simp) ?_
                refine (AllReadyH.cons (o := ({ dst := some 66, op := .buildSlice 27 1 #[(0, .tmp 65)], type := 27, pos := "delta.go:50", after := #[{ on := 8, ground := .data }], guard := none } : Oper)) rfl (fun K hK => ?_) AllReadyH.nil)
                (refine step_buildW rfl (.tmp 65) rfl x rfl ?_; intro q2 wN hq2 r2 kn; have ke := ke.trans' kn; have B8 := B8.keep kn (by simp); have sO := sO.keep kn (by simp))
                refine hK.out _ _ ?_ (fun hHeld25 => ?_)
                · (try dsimp only); all_goals trivial
                clear hK K
                try simp only [Act.put, List.setIfInBounds_toArray, List.set_cons_zero, List.set_cons_succ]
                refine wpAnyH_ready (rs := [10]) (by kernel_rfl) (by simp) ?_
                refine (AllReadyH.cons (o := ({ dst := some 67, op := .call { callee := .builtin .append, args := #[.tmp 58, .tmp 66], argTypes := #[27, 27] }, type := 27, pos := "delta.go:50", after := #[{ on := 1, ground := .data }, { on := 9, ground := .data }, { on := 7, ground := .chain }], guard := none } : Oper)) rfl (fun K hK => ?_) AllReadyH.nil)
                (refine step_appendN rfl (.tmp 58) (.tmp 66) 27 rfl 45 _ 33 40 Try.underlying27 info45 zeroC45 (by omega) (.slice ao k co) k (cellsW (signBl wd d S k)) rfl sO (some ⟨q2, 0, none⟩) 1 1 x.cells rfl (wk_len1 x) (by simp) r2 x.one HB1.out.2 HB1.out.1 ?_; intro a6 c6 w6 hs6 hk6 hf6; have B8k := B8; have B8 := B8.keep hk6 h8O)
                refine hK.out _ _ ?_ (fun hHeld26 => ?_)
                · (try dsimp only); all_goals trivial
                clear hK K
                try simp only [Act.put, List.setIfInBounds_toArray, List.set_cons_zero, List.set_cons_succ]
                refine wpAnyH_take (i := 11) (oi := ({ dst := some 68, op := .fieldAddr 29 (.tmp 8) 4, type := 0, pos := "delta.go:50", after := #[{ on := 0, ground := .phase }, { on := 1, ground := .phase }, { on := 2, ground := .phase }, { on := 3, ground := .phase }, { on := 4, ground := .phase }, { on := 5, ground := .phase }, { on := 6, ground := .phase }, { on := 7, ground := .phase }, { on := 8, ground := .phase }, { on := 9, ground := .phase }, { on := 10, ground := .phase }], guard := none } : Oper)) (v := ?_) rfl (by kernel_rfl) (by kernel_rfl) (by kernel_rfl) (fun _ _ _ h => h) (Or.inl ⟨by rfl, ?_⟩) (by assumption) ?_
                rotate_left
                · (intro w hSw; (try dsimp only at hSw); go_simp; try with_reducible rfl)
                try simp only [Act.put, List.setIfInBounds_toArray, List.set_cons_zero, List.set_cons_succ]
                refine wpAnyH_ready (rs := [12]) (by kernel_rfl) (by simp) ?_
                refine (AllReadyH.cons (o := ({ dst := none, op := .store 27 (.tmp 68) (.tmp 67), type := 0, pos := "delta.go:50", after := #[{ on := 11, ground := .data }, { on := 10, ground := .data }, { on := 10, ground := .chain }, { on := 0, ground := .phase }, { on := 1, ground := .phase }, { on := 2, ground := .phase }, { on := 3, ground := .phase }, { on := 4, ground := .phase }, { on := 5, ground := .phase }, { on := 6, ground := .phase }, { on := 7, ground := .phase }, { on := 8, ground := .phase }, { on := 9, ground := .phase }, { on := 10, ground := .phase }], guard := none } : Oper)) rfl (fun K hK => ?_) AllReadyH.nil)
                (have c35 := sg_blocks B8; have f35 := B8.free (i := 35); go_simp; clear c35 f35)
                refine hK.out _ _ ?_ (fun hHeld27 => ?_)
                · (try dsimp only); all_goals trivial
                clear hK K
                try simp only [Act.put, List.setIfInBounds_toArray, List.set_cons_zero, List.set_cons_succ]
                refine wpAnyH_done (by kernel_rfl) ?_ _
                refine NoPanic.normal ?_
                have B8f := B8.set 35 (.slice a6 (k + 1) c6)
                rw [sg_set35] at B8f
                have ks : Keep [p8] w6 (w6.setCell ⟨p8, 35, none⟩ (.slice a6 (k + 1) c6)) := Keep.set_one w6 ⟨p8, 35, none⟩ _
                have hw6z : p8 < w6.heap.size := B8.lt
                have kke := kk.trans' ke
                have hk6w : Keep [] w w6 := kke.trans hk6 (fun b hb => by rcases fO b hb with h | h; cases h; exact Or.inr h)
                have F6 := fO.trans hf6 kke.size
                have hp8N : p8 ∉ blks (.slice a6 (k + 1) c6) := fun hb => by rcases hf6 p8 hb with h | h; exact h8O h; have := B8k.lt; omega
                have hp6N : p6 ∉ blks (.slice a6 (k + 1) c6) := fun hb => by rcases hf6 p6 hb with h | h; exact h6O h; have := (B6.keep ke (by simp)).lt; omega
                have B6f := ((B6.keep ke (by simp)).keep hk6 h6O).keep ks (by simpa using h68)
                have hs6f := hs6.keep ks (fun b hb hb' => by simp only [List.mem_singleton] at hb'; subst hb'; exact hp8N hb)
                have hkf : Keep [] w (w6.setCell ⟨p8, 35, none⟩ (.slice a6 (k + 1) c6)) := hk6w.trans ks (fun b hb => by simp only [List.mem_singleton] at hb; subst hb; exact Or.inr hw8)
                have hcl : cellsW (signBl wd d S k) ++ x.cells = cellsW (signBl wd d S (k + 1)) := by rw [signBl_succ, cellsW_append, cellsW_one, HBK.out]
                rw [hcl] at hs6f
                have HFIN := Lib.hid (And.intro B8f (And.intro hs6f (And.intro F6 (And.intro hp8N (And.intro hp6N (And.intro B6f hkf))))))
                clear B8f hs6f F6 hp8N hp6N B6f hkf hcl hs6 hk6 hf6 ks hk6w B8 B6 sO B8k
                go_wp2_with fail
                exact ⟨⟨k + 1, a6, c6, by omega, by rw [HNX.out]; go_num, HFIN.out.1, HFIN.out.2.1, HFIN.out.2.2.1, HFIN.out.2.2.2.1, HFIN.out.2.2.2.2.1, HFIN.out.2.2.2.2.2.1, HFIN.out.2.2.2.2.2.2⟩, by simp [intOf]; omega⟩
              · go_simp
                (refine (OFC.out _ q ke Bq).mono ?_; rintro e w' ⟨rfl, kn⟩; have ke := ke.trans' kn; have B8 := B8.keep kn (by simp); have sO := sO.keep kn (by simp); (first | (have Bq := Bq.keep kn (by simp)) | skip))
                go_wp2_with fail
                refine hK.out _ _ ?_ (fun hHeld27 => ?_)
                · (try dsimp only); all_goals trivial
                clear hK K
                try simp only [Act.put, List.setIfInBounds_toArray, List.set_cons_zero, List.set_cons_succ]
                refine wpAnyH_ready (rs := [1, 8]) (by kernel_rfl) (by simp) ?_
                refine (AllReadyH.cons (o := ({ dst := some 58, op := .load 27 (.tmp 57), type := 27, pos := "delta.go:50", after := #[{ on := 0, ground := .data }], guard := none } : Oper)) rfl (fun K hK => ?_) (AllReadyH.cons (o := ({ dst := some 65, op := .build 45 #[(0, .tmp 60), (1, .tmp 64)], type := 45, pos := "delta.go:50", after := #[{ on := 3, ground := .data }, { on := 7, ground := .data }], guard := none } : Oper)) rfl (fun K hK => ?_) AllReadyH.nil))
                · (have c35 := sg_blocks B8; go_simp; clear c35)
                  refine hK.out _ _ ?_ (fun hHeld28 => ?_)
                  · (try dsimp only); all_goals trivial
                  clear hK K
                  try simp only [Act.put, List.setIfInBounds_toArray, List.set_cons_zero, List.set_cons_succ]
                  refine wpAnyH_ready (rs := [8]) (by kernel_rfl) (by simp) ?_
                  refine (AllReadyH.cons (o := ({ dst := some 65, op := .build 45 #[(0, .tmp 60), (1, .tmp 64)], type := 45, pos := "delta.go:50", after := #[{ on := 3, ground := .data }, { on := 7, ground := .data }], guard := none } : Oper)) rfl (fun K hK => ?_) AllReadyH.nil)
                  (refine step_built2 rfl 45 (.tmp 60) (.tmp 64) rfl (.int .i64 sm) (.agg (bs xid).toArray) rfl rfl x.cells.toArray HBU.out ?_)
                  refine hK.out _ _ ?_ (fun hHeld29 => ?_)
                  · (try dsimp only); all_goals trivial
                  clear hK K
                  try simp only [Act.put, List.setIfInBounds_toArray, List.set_cons_zero, List.set_cons_succ]
                  refine wpAnyH_ready (rs := [9]) (by kernel_rfl) (by simp) ?_
                  refine (AllReadyH.cons (o := ({ dst := some 66, op := .buildSlice 27 1 #[(0, .tmp 65)], type := 27, pos := "delta.go:50", after := #[{ on := 8, ground := .data }], guard := none } : Oper)) rfl (fun K hK => ?_) AllReadyH.nil)
                  (refine step_buildW rfl (.tmp 65) rfl x rfl ?_; intro q2 wN hq2 r2 kn; have ke := ke.trans' kn; have B8 := B8.keep kn (by simp); have sO := sO.keep kn (by simp))
                  refine hK.out _ _ ?_ (fun hHeld30 => ?_)
                  · (try dsimp only); all_goals trivial
                  clear hK K
                  try simp only [Act.put, List.setIfInBounds_toArray, List.set_cons_zero, List.set_cons_succ]
                  refine wpAnyH_ready (rs := [10]) (by kernel_rfl) (by simp) ?_
                  refine (AllReadyH.cons (o := ({ dst := some 67, op := .call { callee := .builtin .append, args := #[.tmp 58, .tmp 66], argTypes := #[27, 27] }, type := 27, pos := "delta.go:50", after := #[{ on := 1, ground := .data }, { on := 9, ground := .data }, { on := 7, ground := .chain }], guard := none } : Oper)) rfl (fun K hK => ?_) AllReadyH.nil)
                  (refine step_appendN rfl (.tmp 58) (.tmp 66) 27 rfl 45 _ 33 40 Try.underlying27 info45 zeroC45 (by omega) (.slice ao k co) k (cellsW (signBl wd d S k)) rfl sO (some ⟨q2, 0, none⟩) 1 1 x.cells rfl (wk_len1 x) (by simp) r2 x.one HB1.out.2 HB1.out.1 ?_; intro a6 c6 w6 hs6 hk6 hf6; have B8k := B8; have B8 := B8.keep hk6 h8O)
                  refine hK.out _ _ ?_ (fun hHeld31 => ?_)
                  · (try dsimp only); all_goals trivial
                  clear hK K
                  try simp only [Act.put, List.setIfInBounds_toArray, List.set_cons_zero, List.set_cons_succ]
                  refine wpAnyH_take (i := 11) (oi := ({ dst := some 68, op := .fieldAddr 29 (.tmp 8) 4, type := 0, pos := "delta.go:50", after := #[{ on := 0, ground := .phase }, { on := 1, ground := .phase }, { on := 2, ground := .phase }, { on := 3, ground := .phase }, { on := 4, ground := .phase }, { on := 5, ground := .phase }, { on := 6, ground := .phase }, { on := 7, ground := .phase }, { on := 8, ground := .phase }, { on := 9, ground := .phase }, { on := 10, ground := .phase }], guard := none } : Oper)) (v := ?_) rfl (by kernel_rfl) (by kernel_rfl) (by kernel_rfl) (fun _ _ _ h => h) (Or.inl ⟨by rfl, ?_⟩) (by assumption) ?_
                  rotate_left
                  · (intro w hSw; (try dsimp only at hSw); go_simp; try with_reducible rfl)
                  try simp only [Act.put, List.setIfInBounds_toArray, List.set_cons_zero, List.set_cons_succ]
                  refine wpAnyH_ready (rs := [12]) (by kernel_rfl) (by simp) ?_
                  refine (AllReadyH.cons (o := ({ dst := none, op := .store 27 (.tmp 68) (.tmp 67), type := 0, pos := "delta.go:50", after := #[{ on := 11, ground := .data }, { on := 10, ground := .data }, { on := 10, ground := .chain }, { on := 0, ground := .phase }, { on := 1, ground := .phase }, { on := 2, ground := .phase }, { on := 3, ground := .phase }, { on := 4, ground := .phase }, { on := 5, ground := .phase }, { on := 6, ground := .phase }, { on := 7, ground := .phase }, { on := 8, ground := .phase }, { on := 9, ground := .phase }, { on := 10, ground := .phase }], guard := none } : Oper)) rfl (fun K hK => ?_) AllReadyH.nil)
                  (have c35 := sg_blocks B8; have f35 := B8.free (i := 35); go_simp; clear c35 f35)
                  refine hK.out _ _ ?_ (fun hHeld32 => ?_)
                  · (try dsimp only); all_goals trivial
                  clear hK K
                  try simp only [Act.put, List.setIfInBounds_toArray, List.set_cons_zero, List.set_cons_succ]
                  refine wpAnyH_done (by kernel_rfl) ?_ _
                  refine NoPanic.normal ?_
                  have B8f := B8.set 35 (.slice a6 (k + 1) c6)
                  rw [sg_set35] at B8f
                  have ks : Keep [p8] w6 (w6.setCell ⟨p8, 35, none⟩ (.slice a6 (k + 1) c6)) := Keep.set_one w6 ⟨p8, 35, none⟩ _
                  have hw6z : p8 < w6.heap.size := B8.lt
                  have kke := kk.trans' ke
                  have hk6w : Keep [] w w6 := kke.trans hk6 (fun b hb => by rcases fO b hb with h | h; cases h; exact Or.inr h)
                  have F6 := fO.trans hf6 kke.size
                  have hp8N : p8 ∉ blks (.slice a6 (k + 1) c6) := fun hb => by rcases hf6 p8 hb with h | h; exact h8O h; have := B8k.lt; omega
                  have hp6N : p6 ∉ blks (.slice a6 (k + 1) c6) := fun hb => by rcases hf6 p6 hb with h | h; exact h6O h; have := (B6.keep ke (by simp)).lt; omega
                  have B6f := ((B6.keep ke (by simp)).keep hk6 h6O).keep ks (by simpa using h68)
                  have hs6f := hs6.keep ks (fun b hb hb' => by simp only [List.mem_singleton] at hb'; subst hb'; exact hp8N hb)
                  have hkf : Keep [] w (w6.setCell ⟨p8, 35, none⟩ (.slice a6 (k + 1) c6)) := hk6w.trans ks (fun b hb => by simp only [List.mem_singleton] at hb; subst hb; exact Or.inr hw8)
                  have hcl : cellsW (signBl wd d S k) ++ x.cells = cellsW (signBl wd d S (k + 1)) := by rw [signBl_succ, cellsW_append, cellsW_one, HBK.out]
                  rw [hcl] at hs6f
                  have HFIN := Lib.hid (And.intro B8f (And.intro hs6f (And.intro F6 (And.intro hp8N (And.intro hp6N (And.intro B6f hkf))))))
                  clear B8f hs6f F6 hp8N hp6N B6f hkf hcl hs6 hk6 hf6 ks hk6w B8 B6 sO B8k
                  go_wp2_with fail
                  exact ⟨⟨k + 1, a6, c6, by omega, by rw [HNX.out]; go_num, HFIN.out.1, HFIN.out.2.1, HFIN.out.2.2.1, HFIN.out.2.2.2.1, HFIN.out.2.2.2.2.1, HFIN.out.2.2.2.2.2.1, HFIN.out.2.2.2.2.2.2⟩, by simp [intOf]; omega⟩
                · (refine step_built2 rfl 45 (.tmp 60) (.tmp 64) rfl (.int .i64 sm) (.agg (bs xid).toArray) rfl rfl x.cells.toArray HBU.out ?_)
                  refine hK.out _ _ ?_ (fun hHeld32 => ?_)
                  · (try dsimp only); all_goals trivial
                  clear hK K
                  try simp only [Act.put, List.setIfInBounds_toArray, List.set_cons_zero, List.set_cons_succ]
                  refine wpAnyH_ready (rs := [1, 9]) (by kernel_rfl) (by simp) ?_
                  refine (AllReadyH.cons (o := ({ dst := some 58, op := .load 27 (.tmp 57), type := 27, pos := "delta.go:50", after := #[{ on := 0, ground := .data }], guard := none } : Oper)) rfl (fun K hK => ?_) (AllReadyH.cons (o := ({ dst := some 66, op := .buildSlice 27 1 #[(0, .tmp 65)], type := 27, pos := "delta.go:50", after := #[{ on := 8, ground := .data }], guard := none } : Oper)) rfl (fun K hK => ?_) AllReadyH.nil))
                  · (have c35 := sg_blocks B8; go_simp; clear c35)
                    refine hK.out _ _ ?_ (fun hHeld33 => ?_)
                    · (try dsimp only); all_goals trivial
                    clear hK K
                    try simp only [Act.put, List.setIfInBounds_toArray, List.set_cons_zero, List.set_cons_succ]
                    refine wpAnyH_ready (rs := [9]) (by kernel_rfl) (by simp) ?_
                    refine (AllReadyH.cons (o := ({ dst := some 66, op := .buildSlice 27 1 #[(0, .tmp 65)], type := 27, pos := "delta.go:50", after := #[{ on := 8, ground := .data }], guard := none } : Oper)) rfl (fun K hK => ?_) AllReadyH.nil)
                    (refine step_buildW rfl (.tmp 65) rfl x rfl ?_; intro q2 wN hq2 r2 kn; have ke := ke.trans' kn; have B8 := B8.keep kn (by simp); have sO := sO.keep kn (by simp))
                    refine hK.out _ _ ?_ (fun hHeld34 => ?_)
                    · (try dsimp only); all_goals trivial
                    clear hK K
                    try simp only [Act.put, List.setIfInBounds_toArray, List.set_cons_zero, List.set_cons_succ]
                    refine wpAnyH_ready (rs := [10]) (by kernel_rfl) (by simp) ?_
                    refine (AllReadyH.cons (o := ({ dst := some 67, op := .call { callee := .builtin .append, args := #[.tmp 58, .tmp 66], argTypes := #[27, 27] }, type := 27, pos := "delta.go:50", after := #[{ on := 1, ground := .data }, { on := 9, ground := .data }, { on := 7, ground := .chain }], guard := none } : Oper)) rfl (fun K hK => ?_) AllReadyH.nil)
                    (refine step_appendN rfl (.tmp 58) (.tmp 66) 27 rfl 45 _ 33 40 Try.underlying27 info45 zeroC45 (by omega) (.slice ao k co) k (cellsW (signBl wd d S k)) rfl sO (some ⟨q2, 0, none⟩) 1 1 x.cells rfl (wk_len1 x) (by simp) r2 x.one HB1.out.2 HB1.out.1 ?_; intro a6 c6 w6 hs6 hk6 hf6; have B8k := B8; have B8 := B8.keep hk6 h8O)
                    refine hK.out _ _ ?_ (fun hHeld35 => ?_)
                    · (try dsimp only); all_goals trivial
                    clear hK K
                    try simp only [Act.put, List.setIfInBounds_toArray, List.set_cons_zero, List.set_cons_succ]
                    refine wpAnyH_take (i := 11) (oi := ({ dst := some 68, op := .fieldAddr 29 (.tmp 8) 4, type := 0, pos := "delta.go:50", after := #[{ on := 0, ground := .phase }, { on := 1, ground := .phase }, { on := 2, ground := .phase }, { on := 3, ground := .phase }, { on := 4, ground := .phase }, { on := 5, ground := .phase }, { on := 6, ground := .phase }, { on := 7, ground := .phase }, { on := 8, ground := .phase }, { on := 9, ground := .phase }, { on := 10, ground := .phase }], guard := none } : Oper)) (v := ?_) rfl (by kernel_rfl) (by kernel_rfl) (by kernel_rfl) (fun _ _ _ h => h) (Or.inl ⟨by rfl, ?_⟩) (by assumption) ?_
                    rotate_left
                    · (intro w hSw; (try dsimp only at hSw); go_simp; try with_reducible rfl)
                    try simp only [Act.put, List.setIfInBounds_toArray, List.set_cons_zero, List.set_cons_succ]
                    refine wpAnyH_ready (rs := [12]) (by kernel_rfl) (by simp) ?_
                    refine (AllReadyH.cons (o := ({ dst := none, op := .store 27 (.tmp 68) (.tmp 67), type := 0, pos := "delta.go:50", after := #[{ on := 11, ground := .data }, { on := 10, ground := .data }, { on := 10, ground := .chain }, { on := 0, ground := .phase }, { on := 1, ground := .phase }, { on := 2, ground := .phase }, { on := 3, ground := .phase }, { on := 4, ground := .phase }, { on := 5, ground := .phase }, { on := 6, ground := .phase }, { on := 7, ground := .phase }, { on := 8, ground := .phase }, { on := 9, ground := .phase }, { on := 10, ground := .phase }], guard := none } : Oper)) rfl (fun K hK => ?_) AllReadyH.nil)
                    (have c35 := sg_blocks B8; have f35 := B8.free (i := 35); go_simp; clear c35 f35)
                    refine hK.out _ _ ?_ (fun hHeld36 => ?_)
                    · (try dsimp only); all_goals trivial
                    clear hK K
                    try simp only [Act.put, List.setIfInBounds_toArray, List.set_cons_zero, List.set_cons_succ]
                    refine wpAnyH_done (by kernel_rfl) ?_ _
                    refine NoPanic.normal ?_
                    have B8f := B8.set 35 (.slice a6 (k + 1) c6)
                    rw [sg_set35] at B8f
                    have ks : Keep [p8] w6 (w6.setCell ⟨p8, 35, none⟩ (.slice a6 (k + 1) c6)) := Keep.set_one w6 ⟨p8, 35, none⟩ _
                    have hw6z : p8 < w6.heap.size := B8.lt
                    have kke := kk.trans' ke
                    have hk6w : Keep [] w w6 := kke.trans hk6 (fun b hb => by rcases fO b hb with h | h; cases h; exact Or.inr h)
                    have F6 := fO.trans hf6 kke.size
                    have hp8N : p8 ∉ blks (.slice a6 (k + 1) c6) := fun hb => by rcases hf6 p8 hb with h | h; exact h8O h; have := B8k.lt; omega
                    have hp6N : p6 ∉ blks (.slice a6 (k + 1) c6) := fun hb => by rcases hf6 p6 hb with h | h; exact h6O h; have := (B6.keep ke (by simp)).lt; omega
                    have B6f := ((B6.keep ke (by simp)).keep hk6 h6O).keep ks (by simpa using h68)
                    have hs6f := hs6.keep ks (fun b hb hb' => by simp only [List.mem_singleton] at hb'; subst hb'; exact hp8N hb)
                    have hkf : Keep [] w (w6.setCell ⟨p8, 35, none⟩ (.slice a6 (k + 1) c6)) := hk6w.trans ks (fun b hb => by simp only [List.mem_singleton] at hb; subst hb; exact Or.inr hw8)
                    have hcl : cellsW (signBl wd d S k) ++ x.cells = cellsW (signBl wd d S (k + 1)) := by rw [signBl_succ, cellsW_append, cellsW_one, HBK.out]
                    rw [hcl] at hs6f
                    have HFIN := Lib.hid (And.intro B8f (And.intro hs6f (And.intro F6 (And.intro hp8N (And.intro hp6N (And.intro B6f hkf))))))
                    clear B8f hs6f F6 hp8N hp6N B6f hkf hcl hs6 hk6 hf6 ks hk6w B8 B6 sO B8k
                    go_wp2_with fail
                    exact ⟨⟨k + 1, a6, c6, by omega, by rw [HNX.out]; go_num, HFIN.out.1, HFIN.out.2.1, HFIN.out.2.2.1, HFIN.out.2.2.2.1, HFIN.out.2.2.2.2.1, HFIN.out.2.2.2.2.2.1, HFIN.out.2.2.2.2.2.2⟩, by simp [intOf]; omega⟩
                  · (refine step_buildW rfl (.tmp 65) rfl x rfl ?_; intro q2 wN hq2 r2 kn; have ke := ke.trans' kn; have B8 := B8.keep kn (by simp); have sO := sO.keep kn (by simp))
                    refine hK.out _ _ ?_ (fun hHeld36 => ?_)
                    · (try dsimp only); all_goals trivial
                    clear hK K
                    try simp only [Act.put, List.setIfInBounds_toArray, List.set_cons_zero, List.set_cons_succ]
                    refine wpAnyH_ready (rs := [1]) (by kernel_rfl) (by simp) ?_
                    refine (AllReadyH.cons (o := ({ dst := some 58, op := .load 27 (.tmp 57), type := 27, pos := "delta.go:50", after := #[{ on := 0, ground := .data }], guard := none } : Oper)) rfl (fun K hK => ?_) AllReadyH.nil)
                    (have c35 := sg_blocks B8; go_simp; clear c35)
                    refine hK.out _ _ ?_ (fun hHeld37 => ?_)
                    · (try dsimp only); all_goals trivial
                    clear hK K
                    try simp only [Act.put, List.setIfInBounds_toArray, List.set_cons_zero, List.set_cons_succ]
                    refine wpAnyH_ready (rs := [10]) (by kernel_rfl) (by simp) ?_
                    refine (AllReadyH.cons (o := ({ dst := some 67, op := .call { callee := .builtin .append, args := #[.tmp 58, .tmp 66], argTypes := #[27, 27] }, type := 27, pos := "delta.go:50", after := #[{ on := 1, ground := .data }, { on := 9, ground := .data }, { on := 7, ground := .chain }], guard := none } : Oper)) rfl (fun K hK => ?_) AllReadyH.nil)
                    (refine step_appendN rfl (.tmp 58) (.tmp 66) 27 rfl 45 _ 33 40 Try.underlying27 info45 zeroC45 (by omega) (.slice ao k co) k (cellsW (signBl wd d S k)) rfl sO (some ⟨q2, 0, none⟩) 1 1 x.cells rfl (wk_len1 x) (by simp) r2 x.one HB1.out.2 HB1.out.1 ?_; intro a6 c6 w6 hs6 hk6 hf6; have B8k := B8; have B8 := B8.keep hk6 h8O)
                    refine hK.out _ _ ?_ (fun hHeld38 => ?_)
                    · (try dsimp only); all_goals trivial
                    clear hK K
                    try simp only [Act.put, List.setIfInBounds_toArray, List.set_cons_zero, List.set_cons_succ]
                    refine wpAnyH_take (i := 11) (oi := ({ dst := some 68, op := .fieldAddr 29 (.tmp 8) 4, type := 0, pos := "delta.go:50", after := #[{ on := 0, ground := .phase }, { on := 1, ground := .phase }, { on := 2, ground := .phase }, { on := 3, ground := .phase }, { on := 4, ground := .phase }, { on := 5, ground := .phase }, { on := 6, ground := .phase }, { on := 7, ground := .phase }, { on := 8, ground := .phase }, { on := 9, ground := .phase }, { on := 10, ground := .phase }], guard := none } : Oper)) (v := ?_) rfl (by kernel_rfl) (by kernel_rfl) (by kernel_rfl) (fun _ _ _ h => h) (Or.inl ⟨by rfl, ?_⟩) (by assumption) ?_
                    rotate_left
                    · (intro w hSw; (try dsimp only at hSw); go_simp; try with_reducible rfl)
                    try simp only [Act.put, List.setIfInBounds_toArray, List.set_cons_zero, List.set_cons_succ]
                    refine wpAnyH_ready (rs := [12]) (by kernel_rfl) (by simp) ?_
                    refine (AllReadyH.cons (o := ({ dst := none, op := .store 27 (.tmp 68) (.tmp 67), type := 0, pos := "delta.go:50", after := #[{ on := 11, ground := .data }, { on := 10, ground := .data }, { on := 10, ground := .chain }, { on := 0, ground := .phase }, { on := 1, ground := .phase }, { on := 2, ground := .phase }, { on := 3, ground := .phase }, { on := 4, ground := .phase }, { on := 5, ground := .phase }, { on := 6, ground := .phase }, { on := 7, ground := .phase }, { on := 8, ground := .phase }, { on := 9, ground := .phase }, { on := 10, ground := .phase }], guard := none } : Oper)) rfl (fun K hK => ?_) AllReadyH.nil)
                    (have c35 := sg_blocks B8; have f35 := B8.free (i := 35); go_simp; clear c35 f35)
                    refine hK.out _ _ ?_ (fun hHeld39 => ?_)
                    · (try dsimp only); all_goals trivial
                    clear hK K
                    try simp only [Act.put, List.setIfInBounds_toArray, List.set_cons_zero, List.set_cons_succ]
                    refine wpAnyH_done (by kernel_rfl) ?_ _
                    refine NoPanic.normal ?_
                    have B8f := B8.set 35 (.slice a6 (k + 1) c6)
                    rw [sg_set35] at B8f
                    have ks : Keep [p8] w6 (w6.setCell ⟨p8, 35, none⟩ (.slice a6 (k + 1) c6)) := Keep.set_one w6 ⟨p8, 35, none⟩ _
                    have hw6z : p8 < w6.heap.size := B8.lt
                    have kke := kk.trans' ke
                    have hk6w : Keep [] w w6 := kke.trans hk6 (fun b hb => by rcases fO b hb with h | h; cases h; exact Or.inr h)
                    have F6 := fO.trans hf6 kke.size
                    have hp8N : p8 ∉ blks (.slice a6 (k + 1) c6) := fun hb => by rcases hf6 p8 hb with h | h; exact h8O h; have := B8k.lt; omega
                    have hp6N : p6 ∉ blks (.slice a6 (k + 1) c6) := fun hb => by rcases hf6 p6 hb with h | h; exact h6O h; have := (B6.keep ke (by simp)).lt; omega
                    have B6f := ((B6.keep ke (by simp)).keep hk6 h6O).keep ks (by simpa using h68)
                    have hs6f := hs6.keep ks (fun b hb hb' => by simp only [List.mem_singleton] at hb'; subst hb'; exact hp8N hb)
                    have hkf : Keep [] w (w6.setCell ⟨p8, 35, none⟩ (.slice a6 (k + 1) c6)) := hk6w.trans ks (fun b hb => by simp only [List.mem_singleton] at hb; subst hb; exact Or.inr hw8)
                    have hcl : cellsW (signBl wd d S k) ++ x.cells = cellsW (signBl wd d S (k + 1)) := by rw [signBl_succ, cellsW_append, cellsW_one, HBK.out]
                    rw [hcl] at hs6f
                    have HFIN := Lib.hid (And.intro B8f (And.intro hs6f (And.intro F6 (And.intro hp8N (And.intro hp6N (And.intro B6f hkf))))))
                    clear B8f hs6f F6 hp8N hp6N B6f hkf hcl hs6 hk6 hf6 ks hk6w B8 B6 sO B8k
                    go_wp2_with fail
                    exact ⟨⟨k + 1, a6, c6, by omega, by rw [HNX.out]; go_num, HFIN.out.1, HFIN.out.2.1, HFIN.out.2.2.1, HFIN.out.2.2.2.1, HFIN.out.2.2.2.2.1, HFIN.out.2.2.2.2.2.1, HFIN.out.2.2.2.2.2.2⟩, by simp [intOf]; omega⟩
          · (refine step_buildS rfl (.tmp 62) rfl (some ⟨b, off + o, none⟩) S (c - o) rfl ?_; intro q wN hqq Bqn kn; have ke := ke.trans' kn; have B8 := B8.keep kn (by simp); have sO := sO.keep kn (by simp); have Bq := Bqn)
            refine hK.out _ _ ?_ (fun hHeld39 => ?_)
            · (try dsimp only); all_goals trivial
            clear hK K
            try simp only [Act.put, List.setIfInBounds_toArray, List.set_cons_zero, List.set_cons_succ]
            refine wpAnyH_ready (rs := [1, 3]) (by kernel_rfl) (by simp) ?_
            refine (AllReadyH.cons (o := ({ dst := some 58, op := .load 27 (.tmp 57), type := 27, pos := "delta.go:50", after := #[{ on := 0, ground := .data }], guard := none } : Oper)) rfl (fun K hK => ?_) (AllReadyH.cons (o := ({ dst := some 60, op := .call { callee := .value (.func 44), args := #[.tmp 59], argTypes := #[22] }, type := 3, pos := "delta.go:50", after := #[{ on := 2, ground := .data }], guard := none } : Oper)) rfl (fun K hK => ?_) AllReadyH.nil))
            · (have c35 := sg_blocks B8; go_simp; clear c35)
              refine hK.out _ _ ?_ (fun hHeld40 => ?_)
              · (try dsimp only); all_goals trivial
              clear hK K
              try simp only [Act.put, List.setIfInBounds_toArray, List.set_cons_zero, List.set_cons_succ]
              refine wpAnyH_ready (rs := [3]) (by kernel_rfl) (by simp) ?_
              refine (AllReadyH.cons (o := ({ dst := some 60, op := .call { callee := .value (.func 44), args := #[.tmp 59], argTypes := #[22] }, type := 3, pos := "delta.go:50", after := #[{ on := 2, ground := .data }], guard := none } : Oper)) rfl (fun K hK => ?_) AllReadyH.nil)
              go_simp
              (refine (SUM.out _ ke).mono ?_; rintro e w' ⟨rfl, kn⟩; have ke := ke.trans' kn; have B8 := B8.keep kn (by simp); have sO := sO.keep kn (by simp); (first | (have Bq := Bq.keep kn (by simp)) | skip))
              go_wp2_with fail
              refine hK.out _ _ ?_ (fun hHeld41 => ?_)
              · (try dsimp only); all_goals trivial
              clear hK K
              try simp only [Act.put, List.setIfInBounds_toArray, List.set_cons_zero, List.set_cons_succ]
              refine wpAnyH_ready (rs := [7]) (by kernel_rfl) (by simp) ?_
              refine (AllReadyH.cons (o := ({ dst := some 64, op := .call { callee := .value (.func 43), args := #[.tmp 61, .tmp 63], argTypes := #[3, 124] }, type := 26, pos := "delta.go:50", after := #[{ on := 4, ground := .data }, { on := 6, ground := .data }, { on := 3, ground := .chain }], guard := none } : Oper)) rfl (fun K hK => ?_) AllReadyH.nil)
              go_simp
              (refine (OFC.out _ q ke Bq).mono ?_; rintro e w' ⟨rfl, kn⟩; have ke := ke.trans' kn; have B8 := B8.keep kn (by simp); have sO := sO.keep kn (by simp); (first | (have Bq := Bq.keep kn (by simp)) | skip))
              go_wp2_with fail
              refine hK.out _ _ ?_ (fun hHeld42 => ?_)
              · (try dsimp only); all_goals trivial
              clear hK K
              try simp only [Act.put, List.setIfInBounds_toArray, List.set_cons_zero, List.set_cons_succ]
              refine wpAnyH_ready (rs := [8]) (by kernel_rfl) (by simp) ?_
              refine (AllReadyH.cons (o := ({ dst := some 65, op := .build 45 #[(0, .tmp 60), (1, .tmp 64)], type := 45, pos := "delta.go:50", after := #[{ on := 3, ground := .data }, { on := 7, ground := .data }], guard := none } : Oper)) rfl (fun K hK => ?_) AllReadyH.nil)
              (refine step_built2 rfl 45 (.tmp 60) (.tmp 64) rfl (.int .i64 sm) (.agg (bs xid).toArray) rfl rfl x.cells.toArray HBU.out ?_)
              refine hK.out _ _ ?_ (fun hHeld43 => ?_)
              · (try dsimp only); all_goals trivial
              clear hK K
              try simp only [Act.put, List.setIfInBounds_toArray, List.set_cons_zero, List.set_cons_succ]
              refine wpAnyH_ready (rs := [9]) (by kernel_rfl) (by simp) ?_
              refine (AllReadyH.cons (o := ({ dst := some 66, op := .buildSlice 27 1 #[(0, .tmp 65)], type := 27, pos := "delta.go:50", after := #[{ on := 8, ground := .data }], guard := none } : Oper)) rfl (fun K hK => ?_) AllReadyH.nil)
              (refine step_buildW rfl (.tmp 65) rfl x rfl ?_; intro q2 wN hq2 r2 kn; have ke := ke.trans' kn; have B8 := B8.keep kn (by simp); have sO := sO.keep kn (by simp))
              refine hK.out _ _ ?_ (fun hHeld44 => ?_)
              · (try dsimp only); all_goals trivial
              clear hK K
              try simp only [Act.put, List.setIfInBounds_toArray, List.set_cons_zero, List.set_cons_succ]
              refine wpAnyH_ready (rs := [10]) (by kernel_rfl) (by simp) ?_
              refine (AllReadyH.cons (o := ({ dst := some 67, op := .call { callee := .builtin .append, args := #[.tmp 58, .tmp 66], argTypes := #[27, 27] }, type := 27, pos := "delta.go:50", after := #[{ on := 1, ground := .data }, { on := 9, ground := .data }, { on := 7, ground := .chain }], guard := none } : Oper)) rfl (fun K hK => ?_) AllReadyH.nil)
              (refine step_appendN rfl (.tmp 58) (.tmp 66) 27 rfl 45 _ 33 40 Try.underlying27 info45 zeroC45 (by omega) (.slice ao k co) k (cellsW (signBl wd d S k)) rfl sO (some ⟨q2, 0, none⟩) 1 1 x.cells rfl (wk_len1 x) (by simp) r2 x.one HB1.out.2 HB1.out.1 ?_; intro a6 c6 w6 hs6 hk6 hf6; have B8k := B8; have B8 := B8.keep hk6 h8O)
              refine hK.out _ _ ?_ (fun hHeld45 => ?_)
              · (try dsimp only); all_goals trivial
              clear hK K
              try simp only [Act.put, List.setIfInBounds_toArray, List.set_cons_zero, List.set_cons_succ]
              refine wpAnyH_take (i := 11) (oi := ({ dst := some 68, op := .fieldAddr 29 (.tmp 8) 4, type := 0, pos := "delta.go:50", after := #[{ on := 0, ground := .phase }, { on := 1, ground := .phase }, { on := 2, ground := .phase }, { on := 3, ground := .phase }, { on := 4, ground := .phase }, { on := 5, ground := .phase }, { on := 6, ground := .phase }, { on := 7, ground := .phase }, { on := 8, ground := .phase }, { on := 9, ground := .phase }, { on := 10, ground := .phase }], guard := none } : Oper)) (v := ?_) rfl (by kernel_rfl) (by kernel_rfl) (by kernel_rfl) (fun _ _ _ h => h) (Or.inl ⟨by rfl, ?_⟩) (by assumption) ?_
              rotate_left
              · (intro w hSw; (try dsimp only at hSw); go_simp; try with_reducible rfl)
              try simp only [Act.put, List.setIfInBounds_toArray, List.set_cons_zero, List.set_cons_succ]
              refine wpAnyH_ready (rs := [12]) (by kernel_rfl) (by simp) ?_
              refine (AllReadyH.cons (o := ({ dst := none, op := .store 27 (.tmp 68) (.tmp 67), type := 0, pos := "delta.go:50", after := #[{ on := 11, ground := .data }, { on := 10, ground := .data }, { on := 10, ground := .chain }, { on := 0, ground := .phase }, { on := 1, ground := .phase }, { on := 2, ground := .phase }, { on := 3, ground := .phase }, { on := 4, ground := .phase }, { on := 5, ground := .phase }, { on := 6, ground := .phase }, { on := 7, ground := .phase }, { on := 8, ground := .phase }, { on := 9, ground := .phase }, { on := 10, ground := .phase }], guard := none } : Oper)) rfl (fun K hK => ?_) AllReadyH.nil)
              (have c35 := sg_blocks B8; have f35 := B8.free (i := 35); go_simp; clear c35 f35)
              refine hK.out _ _ ?_ (fun hHeld46 => ?_)
              · (try dsimp only); all_goals trivial
              clear hK K
              try simp only [Act.put, List.setIfInBounds_toArray, List.set_cons_zero, List.set_cons_succ]
              refine wpAnyH_done (by kernel_rfl) ?_ _
              refine NoPanic.normal ?_
              have B8f := B8.set 35 (.slice a6 (k + 1) c6)
              rw [sg_set35] at B8f
              have ks : Keep [p8] w6 (w6.setCell ⟨p8, 35, none⟩ (.slice a6 (k + 1) c6)) := Keep.set_one w6 ⟨p8, 35, none⟩ _
              have hw6z : p8 < w6.heap.size := B8.lt
              have kke := kk.trans' ke
              have hk6w : Keep [] w w6 := kke.trans hk6 (fun b hb => by rcases fO b hb with h | h; cases h; exact Or.inr h)
              have F6 := fO.trans hf6 kke.size
              have hp8N : p8 ∉ blks (.slice a6 (k + 1) c6) := fun hb => by rcases hf6 p8 hb with h | h; exact h8O h; have := B8k.lt; omega
              have hp6N : p6 ∉ blks (.slice a6 (k + 1) c6) := fun hb => by rcases hf6 p6 hb with h | h; exact h6O h; have := (B6.keep ke (by simp)).lt; omega
              have B6f := ((B6.keep ke (by simp)).keep hk6 h6O).keep ks (by simpa using h68)
              have hs6f := hs6.keep ks (fun b hb hb' => by simp only [List.mem_singleton] at hb'; subst hb'; exact hp8N hb)
              have hkf : Keep [] w (w6.setCell ⟨p8, 35, none⟩ (.slice a6 (k + 1) c6)) := hk6w.trans ks (fun b hb => by simp only [List.mem_singleton] at hb; subst hb; exact Or.inr hw8)
              have hcl : cellsW (signBl wd d S k) ++ x.cells = cellsW (signBl wd d S (k + 1)) := by rw [signBl_succ, cellsW_append, cellsW_one, HBK.out]
              rw [hcl] at hs6f
              have HFIN := Lib.hid (And.intro B8f (And.intro hs6f (And.intro F6 (And.intro hp8N (And.intro hp6N (And.intro B6f hkf))))))
              clear B8f hs6f F6 hp8N hp6N B6f hkf hcl hs6 hk6 hf6 ks hk6w B8 B6 sO B8k
              go_wp2_with fail
              exact ⟨⟨k + 1, a6, c6, by omega, by rw [HNX.out]; go_num, HFIN.out.1, HFIN.out.2.1, HFIN.out.2.2.1, HFIN.out.2.2.2.1, HFIN.out.2.2.2.2.1, HFIN.out.2.2.2.2.2.1, HFIN.out.2.2.2.2.2.2⟩, by simp [intOf]; omega⟩
            · go_simp
              (refine (SUM.out _ ke).mono ?_; rintro e w' ⟨rfl, kn⟩; have ke := ke.trans' kn; have B8 := B8.keep kn (by simp); have sO := sO.keep kn (by simp); (first | (have Bq := Bq.keep kn (by simp)) | skip))
              go_wp2_with fail
              refine hK.out _ _ ?_ (fun hHeld46 => ?_)
              · (try dsimp only); all_goals trivial
              clear hK K
              try simp only [Act.put, List.setIfInBounds_toArray, List.set_cons_zero, List.set_cons_succ]
              refine wpAnyH_ready (rs := [1, 7]) (by kernel_rfl) (by simp) ?_
              refine (AllReadyH.cons (o := ({ dst := some 58, op := .load 27 (.tmp 57), type := 27, pos := "delta.go:50", after := #[{ on := 0, ground := .data }], guard := none } : Oper)) rfl (fun K hK => ?_) (AllReadyH.cons (o := ({ dst := some 64, op := .call { callee := .value (.func 43), args := #[.tmp 61, .tmp 63], argTypes := #[3, 124] }, type := 26, pos := "delta.go:50", after := #[{ on := 4, ground := .data }, { on := 6, ground := .data }, { on := 3, ground := .chain }], guard := none } : Oper)) rfl (fun K hK => ?_) AllReadyH.nil))
              · (have c35 := sg_blocks B8; go_simp; clear c35)
                refine hK.out _ _ ?_ (fun hHeld47 => ?_)
                · (try dsimp only); all_goals trivial
                clear hK K
                try simp only [Act.put, List.setIfInBounds_toArray, List.set_cons_zero, List.set_cons_succ]
                refine wpAnyH_ready (rs := [7]) (by kernel_rfl) (by simp) ?_
                refine (AllReadyH.cons (o := ({ dst := some 64, op := .call { callee := .value (.func 43), args := #[.tmp 61, .tmp 63], argTypes := #[3, 124] }, type := 26, pos := "delta.go:50", after := #[{ on := 4, ground := .data }, { on := 6, ground := .data }, { on := 3, ground := .chain }], guard := none } : Oper)) rfl (fun K hK => ?_) AllReadyH.nil)
                go_simp
                (refine (OFC.out _ q ke Bq).mono ?_; rintro e w' ⟨rfl, kn⟩; have ke := ke.trans' kn; have B8 := B8.keep kn (by simp); have sO := sO.keep kn (by simp); (first | (have Bq := Bq.keep kn (by simp)) | skip))
                go_wp2_with fail
                refine hK.out _ _ ?_ (fun hHeld48 => ?_)
                · (try dsimp only); all_goals trivial
                clear hK K
                try simp only [Act.put, List.setIfInBounds_toArray, List.set_cons_zero, List.set_cons_succ]
                refine wpAnyH_ready (rs := [8]) (by kernel_rfl) (by simp) ?_
                refine (AllReadyH.cons (o := ({ dst := some 65, op := .build 45 #[(0, .tmp 60), (1, .tmp 64)], type := 45, pos := "delta.go:50", after := #[{ on := 3, ground := .data }, { on := 7, ground := .data }], guard := none } : Oper)) rfl (fun K hK => ?_) AllReadyH.nil)
                (refine step_built2 rfl 45 (.tmp 60) (.tmp 64) rfl (.int .i64 sm) (.agg (bs xid).toArray) rfl rfl x.cells.toArray HBU.out ?_)
                refine hK.out _ _ ?_ (fun hHeld49 => ?_)
                · (try dsimp only); all_goals trivial
                clear hK K
                try simp only [Act.put, List.setIfInBounds_toArray, List.set_cons_zero, List.set_cons_succ]
                refine wpAnyH_ready (rs := [9]) (by kernel_rfl) (by simp) ?_
                refine (AllReadyH.cons (o := ({ dst := some 66, op := .buildSlice 27 1 #[(0, .tmp 65)], type := 27, pos := "delta.go:50", after := #[{ on := 8, ground := .data }], guard := none } : Oper)) rfl (fun K hK => ?_) AllReadyH.nil)
                (refine step_buildW rfl (.tmp 65) rfl x rfl ?_; intro q2 wN hq2 r2 kn; have ke := ke.trans' kn; have B8 := B8.keep kn (by simp); have sO := sO.keep kn (by simp))
                refine hK.out _ _ ?_ (fun hHeld50 => ?_)
                · (try dsimp only); all_goals trivial
                clear hK K
                try simp only [Act.put, List.setIfInBounds_toArray, List.set_cons_zero, List.set_cons_succ]
                refine wpAnyH_ready (rs := [10]) (by kernel_rfl) (by simp) ?_
                refine (AllReadyH.cons (o := ({ dst := some 67, op := .call { callee := .builtin .append, args := #[.tmp 58, .tmp 66], argTypes := #[27, 27] }, type := 27, pos := "delta.go:50", after := #[{ on := 1, ground := .data }, { on := 9, ground := .data }, { on := 7, ground := .chain }], guard := none } : Oper)) rfl (fun K hK => ?_) AllReadyH.nil)
                (refine step_appendN rfl (.tmp 58) (.tmp 66) 27 rfl 45 _ 33 40 Try.underlying27 info45 zeroC45 (by omega) (.slice ao k co) k (cellsW (signBl wd d S k)) rfl sO (some ⟨q2, 0, none⟩) 1 1 x.cells rfl (wk_len1 x) (by simp) r2 x.one HB1.out.2 HB1.out.1 ?_; intro a6 c6 w6 hs6 hk6 hf6; have B8k := B8; have B8 := B8.keep hk6 h8O)
                refine hK.out _ _ ?_ (fun hHeld51 => ?_)
                · (try dsimp only); all_goals trivial
                clear hK K
                try simp only [Act.put, List.setIfInBounds_toArray, List.set_cons_zero, List.set_cons_succ]
                refine wpAnyH_take (i := 11) (oi := ({ dst := some 68, op := .fieldAddr 29 (.tmp 8) 4, type := 0, pos := "delta.go:50", after := #[{ on := 0, ground := .phase }, { on := 1, ground := .phase }, { on := 2, ground := .phase }, { on := 3, ground := .phase }, { on := 4, ground := .phase }, { on := 5, ground := .phase }, { on := 6, ground := .phase }, { on := 7, ground := .phase }, { on := 8, ground := .phase }, { on := 9, ground := .phase }, { on := 10, ground := .phase }], guard := none } : Oper)) (v := ?_) rfl (by kernel_rfl) (by kernel_rfl) (by kernel_rfl) (fun _ _ _ h => h) (Or.inl ⟨by rfl, ?_⟩) (by assumption) ?_
                rotate_left
                · (intro w hSw; (try dsimp only at hSw); go_simp; try with_reducible rfl)
                try simp only [Act.put, List.setIfInBounds_toArray, List.set_cons_zero, List.set_cons_succ]
                refine wpAnyH_ready (rs := [12]) (by kernel_rfl) (by simp) ?_
                refine (AllReadyH.cons (o := ({ dst := none, op := .store 27 (.tmp 68) (.tmp 67), type := 0, pos := "delta.go:50", after := #[{ on := 11, ground := .data }, { on := 10, ground := .data }, { on := 10, ground := .chain }, { on := 0, ground := .phase }, { on := 1, ground := .phase }, { on := 2, ground := .phase }, { on := 3, ground := .phase }, { on := 4, ground := .phase }, { on := 5, ground := .phase }, { on := 6, ground := .phase }, { on := 7, ground := .phase }, { on := 8, ground := .phase }, { on := 9, ground := .phase }, { on := 10, ground := .phase }], guard := none } : Oper)) rfl (fun K hK => ?_) AllReadyH.nil)
                (have c35 := sg_blocks B8; have f35 := B8.free (i := 35); go_simp; clear c35 f35)
                refine hK.out _ _ ?_ (fun hHeld52 => ?_)
                · (try dsimp only); all_goals trivial
                clear hK K
                try simp only [Act.put, List.setIfInBounds_toArray, List.set_cons_zero, List.set_cons_succ]
                refine wpAnyH_done (by kernel_rfl) ?_ _
                refine NoPanic.normal ?_
                have B8f := B8.set 35 (.slice a6 (k + 1) c6)
                rw [sg_set35] at B8f
                have ks : Keep [p8] w6 (w6.setCell ⟨p8, 35, none⟩ (.slice a6 (k + 1) c6)) := Keep.set_one w6 ⟨p8, 35, none⟩ _
                have hw6z : p8 < w6.heap.size := B8.lt
                have kke := kk.trans' ke
                have hk6w : Keep [] w w6 := kke.trans hk6 (fun b hb => by rcases fO b hb with h | h; cases h; exact Or.inr h)
                have F6 := fO.trans hf6 kke.size
                have hp8N : p8 ∉ blks (.slice a6 (k + 1) c6) := fun hb => by rcases hf6 p8 hb with h | h; exact h8O h; have := B8k.lt; omega
                have hp6N : p6 ∉ blks (.slice a6 (k + 1) c6) := fun hb => by rcases hf6 p6 hb with h | h; exact h6O h; have := (B6.keep ke (by simp)).lt; omega
                have B6f := ((B6.keep ke (by simp)).keep hk6 h6O).keep ks (by simpa using h68)
                have hs6f := hs6.keep ks (fun b hb hb' => by simp only [List.mem_singleton] at hb'; subst hb'; exact hp8N hb)
                have hkf : Keep [] w (w6.setCell ⟨p8, 35, none⟩ (.slice a6 (k + 1) c6)) := hk6w.trans ks (fun b hb => by simp only [List.mem_singleton] at hb; subst hb; exact Or.inr hw8)
                have hcl : cellsW (signBl wd d S k) ++ x.cells = cellsW (signBl wd d S (k + 1)) := by rw [signBl_succ, cellsW_append, cellsW_one, HBK.out]
                rw [hcl] at hs6f
                have HFIN := Lib.hid (And.intro B8f (And.intro hs6f (And.intro F6 (And.intro hp8N (And.intro hp6N (And.intro B6f hkf))))))
                clear B8f hs6f F6 hp8N hp6N B6f hkf hcl hs6 hk6 hf6 ks hk6w B8 B6 sO B8k
                go_wp2_with fail
                exact ⟨⟨k + 1, a6, c6, by omega, by rw [HNX.out]; go_num, HFIN.out.1, HFIN.out.2.1, HFIN.out.2.2.1, HFIN.out.2.2.2.1, HFIN.out.2.2.2.2.1, HFIN.out.2.2.2.2.2.1, HFIN.out.2.2.2.2.2.2⟩, by simp [intOf]; omega⟩
              · go_simp
                (refine (OFC.out _ q ke Bq).mono ?_; rintro e w' ⟨rfl, kn⟩; have ke := ke.trans' kn; have B8 := B8.keep kn (by simp); have sO := sO.keep kn (by simp); (first | (have Bq := Bq.keep kn (by simp)) | skip))
                go_wp2_with fail
                refine hK.out _ _ ?_ (fun hHeld52 => ?_)
                · (try dsimp only); all_goals trivial
                clear hK K
                try simp only [Act.put, List.setIfInBounds_toArray, List.set_cons_zero, List.set_cons_succ]
                refine wpAnyH_ready (rs := [1, 8]) (by kernel_rfl) (by simp) ?_
                refine (AllReadyH.cons (o := ({ dst := some 58, op := .load 27 (.tmp 57), type := 27, pos := "delta.go:50", after := #[{ on := 0, ground := .data }], guard := none } : Oper)) rfl (fun K hK => ?_) (AllReadyH.cons (o := ({ dst := some 65, op := .build 45 #[(0, .tmp 60), (1, .tmp 64)], type := 45, pos := "delta.go:50", after := #[{ on := 3, ground := .data }, { on := 7, ground := .data }], guard := none } : Oper)) rfl (fun K hK => ?_) AllReadyH.nil))
                · (have c35 := sg_blocks B8; go_simp; clear c35)
                  refine hK.out _ _ ?_ (fun hHeld53 => ?_)
                  · (try dsimp only); all_goals trivial
                  clear hK K
                  try simp only [Act.put, List.setIfInBounds_toArray, List.set_cons_zero, List.set_cons_succ]
                  refine wpAnyH_ready (rs := [8]) (by kernel_rfl) (by simp) ?_
                  refine (AllReadyH.cons (o := ({ dst := some 65, op := .build 45 #[(0, .tmp 60), (1, .tmp 64)], type := 45, pos := "delta.go:50", after := #[{ on := 3, ground := .data }, { on := 7, ground := .data }], guard := none } : Oper)) rfl (fun K hK => ?_) AllReadyH.nil)
                  (refine step_built2 rfl 45 (.tmp 60) (.tmp 64) rfl (.int .i64 sm) (.agg (bs xid).toArray) rfl rfl x.cells.toArray HBU.out ?_)
                  refine hK.out _ _ ?_ (fun hHeld54 => ?_)
                  · (try dsimp only); all_goals trivial
                  clear hK K
                  try simp only [Act.put, List.setIfInBounds_toArray, List.set_cons_zero, List.set_cons_succ]
                  refine wpAnyH_ready (rs := [9]) (by kernel_rfl) (by simp) ?_
                  refine (AllReadyH.cons (o := ({ dst := some 66, op := .buildSlice 27 1 #[(0, .tmp 65)], type := 27, pos := "delta.go:50", after := #[{ on := 8, ground := .data }], guard := none } : Oper)) rfl (fun K hK => ?_) AllReadyH.nil)
                  (refine step_buildW rfl (.tmp 65) rfl x rfl ?_; intro q2 wN hq2 r2 kn; have ke := ke.trans' kn; have B8 := B8.keep kn (by simp); have sO := sO.keep kn (by simp))
                  refine hK.out _ _ ?_ (fun hHeld55 => ?_)
                  · (try dsimp only); all_goals trivial
                  clear hK K
                  try simp only [Act.put, List.setIfInBounds_toArray, List.set_cons_zero, List.set_cons_succ]
                  refine wpAnyH_ready (rs := [10]) (by kernel_rfl) (by simp) ?_
                  refine (AllReadyH.cons (o := ({ dst := some 67, op := .call { callee := .builtin .append, args := #[.tmp 58, .tmp 66], argTypes := #[27, 27] }, type := 27, pos := "delta.go:50", after := #[{ on := 1, ground := .data }, { on := 9, ground := .data }, { on := 7, ground := .chain }], guard := none } : Oper)) rfl (fun K hK => ?_) AllReadyH.nil)
                  (refine step_appendN rfl (.tmp 58) (.tmp 66) 27 rfl 45 _ 33 40 Try.underlying27 info45 zeroC45 (by omega) (.slice ao k co) k (cellsW (signBl wd d S k)) rfl sO (some ⟨q2, 0, none⟩) 1 1 x.cells rfl (wk_len1 x) (by simp) r2 x.one HB1.out.2 HB1.out.1 ?_; intro a6 c6 w6 hs6 hk6 hf6; have B8k := B8; have B8 := B8.keep hk6 h8O)
                  refine hK.out _ _ ?_ (fun hHeld56 => ?_)
                  · (try dsimp only); all_goals trivial
                  clear hK K
                  try simp only [Act.put, List.setIfInBounds_toArray, List.set_cons_zero, List.set_cons_succ]
                  refine wpAnyH_take (i := 11) (oi := ({ dst := some 68, op := .fieldAddr 29 (.tmp 8) 4, type := 0, pos := "delta.go:50", after := #[{ on := 0, ground := .phase }, { on := 1, ground := .phase }, { on := 2, ground := .phase }, { on := 3, ground := .phase }, { on := 4, ground := .phase }, { on := 5, ground := .phase }, { on := 6, ground := .phase }, { on := 7, ground := .phase }, { on := 8, ground := .phase }, { on := 9, ground := .phase }, { on := 10, ground := .phase }], guard := none } : Oper)) (v := ?_) rfl (by kernel_rfl) (by kernel_rfl) (by kernel_rfl) (fun _ _ _ h => h) (Or.inl ⟨by rfl, ?_⟩) (by assumption) ?_
                  rotate_left
                  · (intro w hSw; (try dsimp only at hSw); go_simp; try with_reducible rfl)
                  try simp only [Act.put, List.setIfInBounds_toArray, List.set_cons_zero, List.set_cons_succ]
                  refine wpAnyH_ready (rs := [12]) (by kernel_rfl) (by simp) ?_
                  refine (AllReadyH.cons (o := ({ dst := none, op := .store 27 (.tmp 68) (.tmp 67), type := 0, pos := "delta.go:50", after := #[{ on := 11, ground := .data }, { on := 10, ground := .data }, { on := 10, ground := .chain }, { on := 0, ground := .phase }, { on := 1, ground := .phase }, { on := 2, ground := .phase }, { on := 3, ground := .phase }, { on := 4, ground := .phase }, { on := 5, ground := .phase }, { on := 6, ground := .phase }, { on := 7, ground := .phase }, { on := 8, ground := .phase }, { on := 9, ground := .phase }, { on := 10, ground := .phase }], guard := none } : Oper)) rfl (fun K hK => ?_) AllReadyH.nil)
                  (have c35 := sg_blocks B8; have f35 := B8.free (i := 35); go_simp; clear c35 f35)
                  refine hK.out _ _ ?_ (fun hHeld57 => ?_)
                  · (try dsimp only); all_goals trivial
                  clear hK K
                  try simp only [Act.put, List.setIfInBounds_toArray, List.set_cons_zero, List.set_cons_succ]
                  refine wpAnyH_done (by kernel_rfl) ?_ _
                  refine NoPanic.normal ?_
                  have B8f := B8.set 35 (.slice a6 (k + 1) c6)
                  rw [sg_set35] at B8f
                  have ks : Keep [p8] w6 (w6.setCell ⟨p8, 35, none⟩ (.slice a6 (k + 1) c6)) := Keep.set_one w6 ⟨p8, 35, none⟩ _
                  have hw6z : p8 < w6.heap.size := B8.lt
                  have kke := kk.trans' ke
                  have hk6w : Keep [] w w6 := kke.trans hk6 (fun b hb => by rcases fO b hb with h | h; cases h; exact Or.inr h)
                  have F6 := fO.trans hf6 kke.size
                  have hp8N : p8 ∉ blks (.slice a6 (k + 1) c6) := fun hb => by rcases hf6 p8 hb with h | h; exact h8O h; have := B8k.lt; omega
                  have hp6N : p6 ∉ blks (.slice a6 (k + 1) c6) := fun hb => by rcases hf6 p6 hb with h | h; exact h6O h; have := (B6.keep ke (by simp)).lt; omega
                  have B6f := ((B6.keep ke (by simp)).keep hk6 h6O).keep ks (by simpa using h68)
                  have hs6f := hs6.keep ks (fun b hb hb' => by simp only [List.mem_singleton] at hb'; subst hb'; exact hp8N hb)
                  have hkf : Keep [] w (w6.setCell ⟨p8, 35, none⟩ (.slice a6 (k + 1) c6)) := hk6w.trans ks (fun b hb => by simp only [List.mem_singleton] at hb; subst hb; exact Or.inr hw8)
                  have hcl : cellsW (signBl wd d S k) ++ x.cells = cellsW (signBl wd d S (k + 1)) := by rw [signBl_succ, cellsW_append, cellsW_one, HBK.out]
                  rw [hcl] at hs6f
                  have HFIN := Lib.hid (And.intro B8f (And.intro hs6f (And.intro F6 (And.intro hp8N (And.intro hp6N (And.intro B6f hkf))))))
                  clear B8f hs6f F6 hp8N hp6N B6f hkf hcl hs6 hk6 hf6 ks hk6w B8 B6 sO B8k
                  go_wp2_with fail
                  exact ⟨⟨k + 1, a6, c6, by omega, by rw [HNX.out]; go_num, HFIN.out.1, HFIN.out.2.1, HFIN.out.2.2.1, HFIN.out.2.2.2.1, HFIN.out.2.2.2.2.1, HFIN.out.2.2.2.2.2.1, HFIN.out.2.2.2.2.2.2⟩, by simp [intOf]; omega⟩
                · (refine step_built2 rfl 45 (.tmp 60) (.tmp 64) rfl (.int .i64 sm) (.agg (bs xid).toArray) rfl rfl x.cells.toArray HBU.out ?_)
                  refine hK.out _ _ ?_ (fun hHeld57 => ?_)
                  · (try dsimp only); all_goals trivial
                  clear hK K
                  try simp only [Act.put, List.setIfInBounds_toArray, List.set_cons_zero, List.set_cons_succ]
                  refine wpAnyH_ready (rs := [1, 9]) (by kernel_rfl) (by simp) ?_
                  refine (AllReadyH.cons (o := ({ dst := some 58, op := .load 27 (.tmp 57), type := 27, pos := "delta.go:50", after := #[{ on := 0, ground := .data }], guard := none } : Oper)) rfl (fun K hK => ?_) (AllReadyH.cons (o := ({ dst := some 66, op := .buildSlice 27 1 #[(0, .tmp 65)], type := 27, pos := "delta.go:50", after := #[{ on := 8, ground := .data }], guard := none } : Oper)) rfl (fun K hK => ?_) AllReadyH.nil))
                  · (have c35 := sg_blocks B8; go_simp; clear c35)
                    refine hK.out _ _ ?_ (fun hHeld58 => ?_)
                    · (try dsimp only); all_goals trivial
                    clear hK K
                    try simp only [Act.put, List.setIfInBounds_toArray, List.set_cons_zero, List.set_cons_succ]
                    refine wpAnyH_ready (rs := [9]) (by kernel_rfl) (by simp) ?_
                    refine (AllReadyH.cons (o := ({ dst := some 66, op := .buildSlice 27 1 #[(0, .tmp 65)], type := 27, pos := "delta.go:50", after := #[{ on := 8, ground := .data }], guard := none } : Oper)) rfl (fun K hK => ?_) AllReadyH.nil)
                    (refine step_buildW rfl (.tmp 65) rfl x rfl ?_; intro q2 wN hq2 r2 kn; have ke := ke.trans' kn; have B8 := B8.keep kn (by simp); have sO := sO.keep kn (by simp))
                    refine hK.out _ _ ?_ (fun hHeld59 => ?_)
                    · (try dsimp only); all_goals trivial
                    clear hK K
                    try simp only [Act.put, List.setIfInBounds_toArray, List.set_cons_zero, List.set_cons_succ]
                    refine wpAnyH_ready (rs := [10]) (by kernel_rfl) (by simp) ?_
                    refine (AllReadyH.cons (o := ({ dst := some 67, op := .call { callee := .builtin .append, args := #[.tmp 58, .tmp 66], argTypes := #[27, 27] }, type := 27, pos := "delta.go:50", after := #[{ on := 1, ground := .data }, { on := 9, ground := .data }, { on := 7, ground := .chain }], guard := none } : Oper)) rfl (fun K hK => ?_) AllReadyH.nil)
                    (refine step_appendN rfl (.tmp 58) (.tmp 66) 27 rfl 45 _ 33 40 Try.underlying27 info45 zeroC45 (by omega) (.slice ao k co) k (cellsW (signBl wd d S k)) rfl sO (some ⟨q2, 0, none⟩) 1 1 x.cells rfl (wk_len1 x) (by simp) r2 x.one HB1.out.2 HB1.out.1 ?_; intro a6 c6 w6 hs6 hk6 hf6; have B8k := B8; have B8 := B8.keep hk6 h8O)
                    refine hK.out _ _ ?_ (fun hHeld60 => ?_)
                    · (try dsimp only); all_goals trivial
                    clear hK K
                    try simp only [Act.put, List.setIfInBounds_toArray, List.set_cons_zero, List.set_cons_succ]
                    refine wpAnyH_take (i := 11) (oi := ({ dst := some 68, op := .fieldAddr 29 (.tmp 8) 4, type := 0, pos := "delta.go:50", after := #[{ on := 0, ground := .phase }, { on := 1, ground := .phase }, { on := 2, ground := .phase }, { on := 3, ground := .phase }, { on := 4, ground := .phase }, { on := 5, ground := .phase }, { on := 6, ground := .phase }, { on := 7, ground := .phase }, { on := 8, ground := .phase }, { on := 9, ground := .phase }, { on := 10, ground := .phase }], guard := none } : Oper)) (v := ?_) rfl (by kernel_rfl) (by kernel_rfl) (by kernel_rfl) (fun _ _ _ h => h) (Or.inl ⟨by rfl, ?_⟩) (by assumption) ?_
                    rotate_left
                    · (intro w hSw; (try dsimp only at hSw); go_simp; try with_reducible rfl)
                    try simp only [Act.put, List.setIfInBounds_toArray, List.set_cons_zero, List.set_cons_succ]
                    refine wpAnyH_ready (rs := [12]) (by kernel_rfl) (by simp) ?_
                    refine (AllReadyH.cons (o := ({ dst := none, op := .store 27 (.tmp 68) (.tmp 67), type := 0, pos := "delta.go:50", after := #[{ on := 11, ground := .data }, { on := 10, ground := .data }, { on := 10, ground := .chain }, { on := 0, ground := .phase }, { on := 1, ground := .phase }, { on := 2, ground := .phase }, { on := 3, ground := .phase }, { on := 4, ground := .phase }, { on := 5, ground := .phase }, { on := 6, ground := .phase }, { on := 7, ground := .phase }, { on := 8, ground := .phase }, { on := 9, ground := .phase }, { on := 10, ground := .phase }], guard := none } : Oper)) rfl (fun K hK => ?_) AllReadyH.nil)
                    (have c35 := sg_blocks B8; have f35 := B8.free (i := 35); go_simp; clear c35 f35)
                    refine hK.out _ _ ?_ (fun hHeld61 => ?_)
                    · (try dsimp only); all_goals trivial
                    clear hK K
                    try simp only [Act.put, List.setIfInBounds_toArray, List.set_cons_zero, List.set_cons_succ]
                    refine wpAnyH_done (by kernel_rfl) ?_ _
                    refine NoPanic.normal ?_
                    have B8f := B8.set 35 (.slice a6 (k + 1) c6)
                    rw [sg_set35] at B8f
                    have ks : Keep [p8] w6 (w6.setCell ⟨p8, 35, none⟩ (.slice a6 (k + 1) c6)) := Keep.set_one w6 ⟨p8, 35, none⟩ _
                    have hw6z : p8 < w6.heap.size := B8.lt
                    have kke := kk.trans' ke
                    have hk6w : Keep [] w w6 := kke.trans hk6 (fun b hb => by rcases fO b hb with h | h; cases h; exact Or.inr h)
                    have F6 := fO.trans hf6 kke.size
                    have hp8N : p8 ∉ blks (.slice a6 (k + 1) c6) := fun hb => by rcases hf6 p8 hb with h | h; exact h8O h; have := B8k.lt; omega
                    have hp6N : p6 ∉ blks (.slice a6 (k + 1) c6) := fun hb => by rcases hf6 p6 hb with h | h; exact h6O h; have := (B6.keep ke (by simp)).lt; omega
                    have B6f := ((B6.keep ke (by simp)).keep hk6 h6O).keep ks (by simpa using h68)
                    have hs6f := hs6.keep ks (fun b hb hb' => by simp only [List.mem_singleton] at hb'; subst hb'; exact hp8N hb)
                    have hkf : Keep [] w (w6.setCell ⟨p8, 35, none⟩ (.slice a6 (k + 1) c6)) := hk6w.trans ks (fun b hb => by simp only [List.mem_singleton] at hb; subst hb; exact Or.inr hw8)
                    have hcl : cellsW (signBl wd d S k) ++ x.cells = cellsW (signBl wd d S (k + 1)) := by rw [signBl_succ, cellsW_append, cellsW_one, HBK.out]
                    rw [hcl] at hs6f
                    have HFIN := Lib.hid (And.intro B8f (And.intro hs6f (And.intro F6 (And.intro hp8N (And.intro hp6N (And.intro B6f hkf))))))
                    clear B8f hs6f F6 hp8N hp6N B6f hkf hcl hs6 hk6 hf6 ks hk6w B8 B6 sO B8k
                    go_wp2_with fail
                    exact ⟨⟨k + 1, a6, c6, by omega, by rw [HNX.out]; go_num, HFIN.out.1, HFIN.out.2.1, HFIN.out.2.2.1, HFIN.out.2.2.2.1, HFIN.out.2.2.2.2.1, HFIN.out.2.2.2.2.2.1, HFIN.out.2.2.2.2.2.2⟩, by simp [intOf]; omega⟩
                  · (refine step_buildW rfl (.tmp 65) rfl x rfl ?_; intro q2 wN hq2 r2 kn; have ke := ke.trans' kn; have B8 := B8.keep kn (by simp); have sO := sO.keep kn (by simp))
                    refine hK.out _ _ ?_ (fun hHeld61 => ?_)
                    · (try dsimp only); all_goals trivial
                    clear hK K
                    try simp only [Act.put, List.setIfInBounds_toArray, List.set_cons_zero, List.set_cons_succ]
                    refine wpAnyH_ready (rs := [1]) (by kernel_rfl) (by simp) ?_
                    refine (AllReadyH.cons (o := ({ dst := some 58, op := .load 27 (.tmp 57), type := 27, pos := "delta.go:50", after := #[{ on := 0, ground := .data }], guard := none } : Oper)) rfl (fun K hK => ?_) AllReadyH.nil)
                    (have c35 := sg_blocks B8; go_simp; clear c35)
                    refine hK.out _ _ ?_ (fun hHeld62 => ?_)
                    · (try dsimp only); all_goals trivial
                    clear hK K
                    try simp only [Act.put, List.setIfInBounds_toArray, List.set_cons_zero, List.set_cons_succ]
                    refine wpAnyH_ready (rs := [10]) (by kernel_rfl) (by simp) ?_
                    refine (AllReadyH.cons (o := ({ dst := some 67, op := .call { callee := .builtin .append, args := #[.tmp 58, .tmp 66], argTypes := #[27, 27] }, type := 27, pos := "delta.go:50", after := #[{ on := 1, ground := .data }, { on := 9, ground := .data }, { on := 7, ground := .chain }], guard := none } : Oper)) rfl (fun K hK => ?_) AllReadyH.nil)
                    (refine step_appendN rfl (.tmp 58) (.tmp 66) 27 rfl 45 _ 33 40 Try.underlying27 info45 zeroC45 (by omega) (.slice ao k co) k (cellsW (signBl wd d S k)) rfl sO (some ⟨q2, 0, none⟩) 1 1 x.cells rfl (wk_len1 x) (by simp) r2 x.one HB1.out.2 HB1.out.1 ?_; intro a6 c6 w6 hs6 hk6 hf6; have B8k := B8; have B8 := B8.keep hk6 h8O)
                    refine hK.out _ _ ?_ (fun hHeld63 => ?_)
                    · (try dsimp only); all_goals trivial
                    clear hK K
                    try simp only [Act.put, List.setIfInBounds_toArray, List.set_cons_zero, List.set_cons_succ]
                    refine wpAnyH_take (i := 11) (oi := ({ dst := some 68, op := .fieldAddr 29 (.tmp 8) 4, type := 0, pos := "delta.go:50", after := #[{ on := 0, ground := .phase }, { on := 1, ground := .phase }, { on := 2, ground := .phase }, { on := 3, ground := .phase }, { on := 4, ground := .phase }, { on := 5, ground := .phase }, { on := 6, ground := .phase }, { on := 7, ground := .phase }, { on := 8, ground := .phase }, { on := 9, ground := .phase }, { on := 10, ground := .phase }], guard := none } : Oper)) (v := ?_) rfl (by kernel_rfl) (by kernel_rfl) (by kernel_rfl) (fun _ _ _ h => h) (Or.inl ⟨by rfl, ?_⟩) (by assumption) ?_
                    rotate_left
                    · (intro w hSw; (try dsimp only at hSw); go_simp; try with_reducible rfl)
                    try simp only [Act.put, List.setIfInBounds_toArray, List.set_cons_zero, List.set_cons_succ]
                    refine wpAnyH_ready (rs := [12]) (by kernel_rfl) (by simp) ?_
                    refine (AllReadyH.cons (o := ({ dst := none, op := .store 27 (.tmp 68) (.tmp 67), type := 0, pos := "delta.go:50", after := #[{ on := 11, ground := .data }, { on := 10, ground := .data }, { on := 10, ground := .chain }, { on := 0, ground := .phase }, { on := 1, ground := .phase }, { on := 2, ground := .phase }, { on := 3, ground := .phase }, { on := 4, ground := .phase }, { on := 5, ground := .phase }, { on := 6, ground := .phase }, { on := 7, ground := .phase }, { on := 8, ground := .phase }, { on := 9, ground := .phase }, { on := 10, ground := .phase }], guard := none } : Oper)) rfl (fun K hK => ?_) AllReadyH.nil)
                    (have c35 := sg_blocks B8; have f35 := B8.free (i := 35); go_simp; clear c35 f35)
                    refine hK.out _ _ ?_ (fun hHeld64 => ?_)
                    · (try dsimp only); all_goals trivial
                    clear hK K
                    try simp only [Act.put, List.setIfInBounds_toArray, List.set_cons_zero, List.set_cons_succ]
                    refine wpAnyH_done (by kernel_rfl) ?_ _
                    refine NoPanic.normal ?_
                    have B8f := B8.set 35 (.slice a6 (k + 1) c6)
                    rw [sg_set35] at B8f
                    have ks : Keep [p8] w6 (w6.setCell ⟨p8, 35, none⟩ (.slice a6 (k + 1) c6)) := Keep.set_one w6 ⟨p8, 35, none⟩ _
                    have hw6z : p8 < w6.heap.size := B8.lt
                    have kke := kk.trans' ke
                    have hk6w : Keep [] w w6 := kke.trans hk6 (fun b hb => by rcases fO b hb with h | h; cases h; exact Or.inr h)
                    have F6 := fO.trans hf6 kke.size
                    have hp8N : p8 ∉ blks (.slice a6 (k + 1) c6) := fun hb => by rcases hf6 p8 hb with h | h; exact h8O h; have := B8k.lt; omega
                    have hp6N : p6 ∉ blks (.slice a6 (k + 1) c6) := fun hb => by rcases hf6 p6 hb with h | h; exact h6O h; have := (B6.keep ke (by simp)).lt; omega
                    have B6f := ((B6.keep ke (by simp)).keep hk6 h6O).keep ks (by simpa using h68)
                    have hs6f := hs6.keep ks (fun b hb hb' => by simp only [List.mem_singleton] at hb'; subst hb'; exact hp8N hb)
                    have hkf : Keep [] w (w6.setCell ⟨p8, 35, none⟩ (.slice a6 (k + 1) c6)) := hk6w.trans ks (fun b hb => by simp only [List.mem_singleton] at hb; subst hb; exact Or.inr hw8)
                    have hcl : cellsW (signBl wd d S k) ++ x.cells = cellsW (signBl wd d S (k + 1)) := by rw [signBl_succ, cellsW_append, cellsW_one, HBK.out]
                    rw [hcl] at hs6f
                    have HFIN := Lib.hid (And.intro B8f (And.intro hs6f (And.intro F6 (And.intro hp8N (And.intro hp6N (And.intro B6f hkf))))))
                    clear B8f hs6f F6 hp8N hp6N B6f hkf hcl hs6 hk6 hf6 ks hk6w B8 B6 sO B8k
                    go_wp2_with fail
                    exact ⟨⟨k + 1, a6, c6, by omega, by rw [HNX.out]; go_num, HFIN.out.1, HFIN.out.2.1, HFIN.out.2.2.1, HFIN.out.2.2.2.1, HFIN.out.2.2.2.2.1, HFIN.out.2.2.2.2.2.1, HFIN.out.2.2.2.2.2.2⟩, by simp [intOf]; omega⟩
        · obtain rfl : k = Q := by omega
          have i1 : ¬ o + S ≤ n := fun h => hq (hlt.2 h)
          have j1 : decide ((o : Int) + S ≤ n) = false := decide_eq_false (by omega)
          have j2 : (n : Int) < (o : Int) + S := by omega
          have hon : o ≤ n := by rw [← HO.out, ← HQ.out]; exact Nat.div_mul_le_self n S
          have j3 : (o : Int) + S ≤ 140737488355328 := by omega
          have j4 : IntKind.i64.wrap ((o : Int) + S) = (o : Int) + S := IntWalk.i64_in _ (by omega)
          have j5 : wrap64 ((o : Int) + S) = (o : Int) + S := by unfold wrap64; omega
          have HLT := Lib.hid hlt
          clear hlt hq hqd hQn hqw h2 i1
          have rG := rangeAt_of_blk B8
          have hiG := hi29 G ao k co
          have HG1 := Lib.hid (G.one ao k co)
          have hlen6 : zc.length = (G.cells ao k co).length := by rw [G.len]; have := HZC.out; rw [← this, zeroG.len]
          go_wp2_with (first
            | (refine wpList_load_mid rfl 29 (.tmp 8) rfl p8 0 rfl (G.cells ao k co) _ rG Try.underlying29 rfl hiG ?_)
            | (refine wpList_storeAll rfl 29 (.tmp 6) (.tmp 69) rfl p6 29 (G.cells ao k co) zc rfl rfl B6 hlen6 HG1.out hiG ?_; intro w5 B5 k5)
            | fail)
          refine bodyPost_ret (results_cellt rfl _ _ p6 29 (G.cells ao k co).toArray (0, 0) _ rfl B5 Try.underlying29 rfl (by simpa using hiG) (.int .i64 0) rfl) rfl ?_
          rw [HC.out, HS.out]
          refine ⟨ao, k, co, by rw [hd_cells, HG.out], signBl_len _ _ _ _, sO.keep k5 (fun b hb hb' => by simp only [List.mem_singleton] at hb'; subst hb'; exact h6O hb), fO, kk.trans k5 (fun b hb => by simp only [List.mem_singleton] at hb; subst hb; exact Or.inr hw6)⟩
end Go.Proofs.Ytpocegdlobnhaaa

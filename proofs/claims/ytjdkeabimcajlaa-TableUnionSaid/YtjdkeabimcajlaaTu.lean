/- TableUnion: its walk. -/
import Derived.Test.YtjdkeabimcajlaaPu
import Derived.Test.YtjdkeabimcajlaaFl
import Derived.Test.YtjdkeabimcajlaaVc
set_option linter.unusedVariables false
set_option linter.unusedSimpArgs false
namespace Go.Proofs.Ytjdkeabimcajlaa
open Go.RowKit

theorem unl_succ {l m : List Res} {i : Nat} {y : Res} (h : m[i]? = some y) : unl l (m.take (i + 1)) = unl l (m.take i) ++ (if findB l y.act = true ∧ findV l y.act ≠ y then [(findV l y.act).act] else []) := by
  unfold unl; rw [List.take_add_one, h, List.flatMap_append]; simp
theorem cnt_succ {l m : List Res} {i : Nat} {y : Res} (h : m[i]? = some y) : cntN l (m.take (i + 1)) = cntN l (m.take i) + (if findB l y.act = true then 0 else 1) := by
  unfold cntN
  rw [List.take_add_one, h, List.filter_append, List.length_append]
  congr 1
  cases hb : findB l y.act <;> simp [hb]
theorem unl_32 {l m : List Res} : ∀ i ∈ unl l m, i.length = 32 := fun i hi => by
  unfold unl at hi
  obtain ⟨y, _, hy⟩ := List.mem_flatMap.1 hi
  split at hy
  · rw [List.mem_singleton] at hy; rw [hy]; exact (findV l y.act).la
  · cases hy
theorem cnt_le (l m : List Res) : cntN l m ≤ m.length := List.length_filter_le _ _
theorem unl_le : ∀ (l m : List Res), (unl l m).length ≤ m.length := fun l m => by
  unfold unl
  induction m with
  | nil => simp
  | cons y m ih =>
    rw [List.flatMap_cons, List.length_append, List.length_cons]
    have h1 : (if findB l y.act = true ∧ findV l y.act ≠ y then [(findV l y.act).act] else []).length ≤ 1 := by split <;> simp
    omega
theorem lit37 {w : World} {xs : List UInt8} {v : Value} {n : Nat} {vs : List Value} (s : Sl w 37 32 v n vs) (hx : xs.length = 32) :
    Sl (w.alloc (.cells (bs xs).toArray 37)) 37 32 v n vs ∧ Rd (w.alloc (.cells (bs xs).toArray 37)) (some ⟨w.heap.size, 0, none⟩) (bs xs) ∧ Keep [] w (w.alloc (.cells (bs xs).toArray 37)) :=
  ⟨s.keep ((Keep.refl [] w).alloc _) (by simp), Rd.of_blk (Blk.new w _ 37) 0 (fun j v hj => by rw [Nat.zero_add]; exact hj), (Keep.refl [] w).alloc _⟩

/-- What holds while theirs are gone through. -/
def UnI (w WL : World) (l m : List Res) (p : Nat) (v14 v15 v16 : Value) (wr : World) : Prop :=
  ∃ (i q : Nat) (au : Option Addr) (cu : Nat), i ≤ p ∧ v16 = .int .i64 (i : Nat) ∧ v15 = .int .i64 ((l.length + cntN l (m.take i) : Nat) : Int) ∧ v14 = .slice au q cu ∧ (unl l (m.take i)).length = q ∧ Sl wr 37 32 (.slice au q cu) q (idCells (unl l (m.take i))) ∧ Fr WL [] (blks (.slice au q cu)) ∧ Keep [] WL wr

set_option maxHeartbeats 40000000 in
set_option maxRecDepth 100000 in
theorem tableUnion_walk (a : Option Addr) (n c : Nat) (l : List Res) (b : Option Addr) (p d : Nat) (m : List Res) (w : World) (hx : RsIn w a n c l) (hy : RsIn w b p d m) :
    Calls Try.prog 6 #[.slice a n c, .slice b p d] w fun e w' => e = .returned (.bool true) ∧ Keep [] w w' := by
  have hl := hx.hlen
  have hsh := hx.short
  have hm := hy.hlen
  have hsm := hy.short
  obtain ⟨r1, hr1⟩ : ∃ rs, joinT 1 l m = rs := ⟨_, rfl⟩
  obtain ⟨i1, hi1⟩ : ∃ rs, joinI 1 l m = rs := ⟨_, rfl⟩
  obtain ⟨z1, hz1⟩ : ∃ z, joinC 1 l m = z := ⟨_, rfl⟩
  obtain ⟨r2, hr2⟩ : ∃ rs, joinT 2 l m = rs := ⟨_, rfl⟩
  obtain ⟨i2, hi2⟩ : ∃ rs, joinI 2 l m = rs := ⟨_, rfl⟩
  obtain ⟨z2, hz2⟩ : ∃ z, joinC 2 l m = z := ⟨_, rfl⟩
  obtain ⟨r3, hr3⟩ : ∃ rs, joinT 3 l m = rs := ⟨_, rfl⟩
  obtain ⟨i3, hi3⟩ : ∃ rs, joinI 3 l m = rs := ⟨_, rfl⟩
  obtain ⟨z3, hz3⟩ : ∃ z, joinC 3 l m = z := ⟨_, rfl⟩
  have E1 := Lib.hid (fun W h h' => (join_any a b n c p d l m 1 W h h').mono (fun e w' hg => by have := giveN (by omega) hg; rwa [hr1, hi1, hz1] at this) : ∀ W, RsIn W a n c l → RsIn W b p d m → Calls Try.prog 25 #[.slice a n c, .slice b p d, .int .i64 1] W (GiveN W r1 i1 z1))
  have E2 := Lib.hid (fun W h h' => (join_any a b n c p d l m 2 W h h').mono (fun e w' hg => by have := giveN (by omega) hg; rwa [hr2, hi2, hz2] at this) : ∀ W, RsIn W a n c l → RsIn W b p d m → Calls Try.prog 25 #[.slice a n c, .slice b p d, .int .i64 2] W (GiveN W r2 i2 z2))
  have E3 := Lib.hid (fun W h h' => (join_any a b n c p d l m 3 W h h').mono (fun e w' hg => by have := giveN (by omega) hg; rwa [hr3, hi3, hz3] at this) : ∀ W, RsIn W a n c l → RsIn W b p d m → Calls Try.prog 25 #[.slice a n c, .slice b p d, .int .i64 3] W (GiveN W r3 i3 z3))
  have HJ := Lib.hid (And.intro hr1 (And.intro hi1 (And.intro hz1 (And.intro hr2 (And.intro hi2 (And.intro hz2 (And.intro hr3 (And.intro hi3 hz3))))))))
  have HL := Lib.hid (And.intro hl hm)
  obtain ⟨v1, hv1⟩ : ∃ v, validR l = v := ⟨_, rfl⟩
  obtain ⟨v2, hv2⟩ : ∃ v, validR m = v := ⟨_, rfl⟩
  have L1 := Lib.hid (fun W h => by have := lawFits_any a n c l W h; rwa [hv1] at this : ∀ W, RsIn W a n c l → Calls Try.prog 28 #[.slice a n c] W fun e w' => e = .returned (.bool v1) ∧ Keep [] W w')
  have L2 := Lib.hid (fun W h => by have := lawFits_any b p d m W h; rwa [hv2] at this : ∀ W, RsIn W b p d m → Calls Try.prog 28 #[.slice b p d] W fun e w' => e = .returned (.bool v2) ∧ Keep [] W w')
  have HV := Lib.hid (And.intro hv1 hv2)
  clear hr1 hi1 hz1 hr2 hi2 hz2 hr3 hi3 hz3 hl hm hv1 hv2
  go_enter Try.func6, Try.ntmps6
  go_upto_region 2 with (first
    | (go_at_call 25; refine (E1.out _ hx hy).mono ?_; rintro e w1 ⟨a5, n5, c5, a6, n6, c6, rfl, t5, u6, f5, f6, b6, k1⟩)
    | fail)
  have hx1 := hx.keep k1 (by simp)
  have hy1 := hy.keep k1 (by simp)
  go_upto_region 3 with (first
    | (go_at_call 25; refine (E2.out _ hx1 hy1).mono ?_; rintro e w2 ⟨a8, n8, c8, a9, n9, c9, rfl, t8, u9, f8, f9, b9, k2⟩)
    | fail)
  have hx2 := hx1.keep k2 (by simp)
  have hy2 := hy1.keep k2 (by simp)
  go_upto_region 4 with (first
    | (go_at_call 25; refine (E3.out _ hx2 hy2).mono ?_; rintro e w3 ⟨aB, nB, cB, aC, nC, cC, rfl, tB, uC, fB, fC, bC, k3⟩)
    | fail)
  have k13 := (k1.trans' k2).trans' k3
  have hx3 := hx2.keep k3 (by simp)
  have hy3 := hy2.keep k3 (by simp)
  have t5b := t5.keep (k2.trans' k3) (by simp)
  have t8b := t8.keep k3 (by simp)
  have u6b := u6.keep (k2.trans' k3)
  have u9b := u9.keep k3
  clear t5 t8 u6 u9 hx1 hy1 hx2 hy2 k1 k2 k3
  by_cases hv : ¬ (v1 = true ∧ v2 = true)
  · have hbad : ¬ (validR l = true ∧ validR m = true) := by rw [HV.out.1, HV.out.2]; exact hv
    have g1 := join_bad (how := 1) (l := l) (m := m) (Or.inl rfl) hbad
    have g2 := join_bad (how := 2) (l := l) (m := m) (Or.inr (Or.inl rfl)) hbad
    have g3 := join_bad (how := 3) (l := l) (m := m) (Or.inr (Or.inr rfl)) hbad
    obtain ⟨j1, j2, j3, j4, j5, j6, j7, j8, j9⟩ := HJ.out
    rw [j1, j2, j3] at g1
    rw [j4, j5, j6] at g2
    rw [j7, j8, j9] at g3
    obtain ⟨rfl, rfl, rfl⟩ := g1
    obtain ⟨rfl, rfl, rfl⟩ := g2
    obtain ⟨rfl, rfl, rfl⟩ := g3
    clear j1 j2 j3 j4 j5 j6 j7 j8 j9 hbad HJ E1 E2 E3
    obtain rfl : n5 = 0 := t5b.hlen.symm
    obtain rfl : n8 = 0 := t8b.hlen.symm
    obtain rfl : nB = 0 := tB.hlen.symm
    obtain rfl : n6 = 0 := u6b.hlen.symm
    obtain rfl : n9 = 0 := u9b.hlen.symm
    obtain rfl : nC = 0 := uC.hlen.symm
    cases v1 with
    | false =>
      go_wp2_with (first
        | (go_at_call 28; refine (L1.out _ hx3).mono ?_; rintro e w4 ⟨rfl, k4⟩)
        | (go_at_call 21; refine (awake_any _).mono ?_; rintro e w6 ⟨rfl, k6⟩)
        | fail)
      go_returns
      exact ⟨rfl, (k13.trans' k4).trans' k6⟩
    | true =>
      obtain rfl : v2 = false := by cases v2; rfl; exact absurd ⟨rfl, rfl⟩ hv
      go_wp2_with (first
        | (go_at_call 28; refine (L2.out _ (hy3.keep k4 (by simp))).mono ?_; rintro e w5 ⟨rfl, k5⟩)
        | (go_at_call 28; refine (L1.out _ hx3).mono ?_; rintro e w4 ⟨rfl, k4⟩)
        | (go_at_call 21; refine (awake_any _).mono ?_; rintro e w6 ⟨rfl, k6⟩)
        | fail)
      go_returns
      exact ⟨rfl, ((k13.trans' k4).trans' k5).trans' k6⟩
  obtain ⟨rfl, rfl⟩ := Classical.not_not.1 hv
  obtain ⟨hvl, hvm⟩ := HV.out
  obtain ⟨l32, lf, lp⟩ := valid_iff.1 hvl
  obtain ⟨m32, mf, mp⟩ := valid_iff.1 hvm
  obtain ⟨hK, hN⟩ := unl_join l m lp mp
  have HK := Lib.hid hK
  have HN := Lib.hid hN
  have HP := Lib.hid (And.intro lp mp)
  have n32 : n ≤ 32 := by have := HL.out.1; omega
  have p32 : p ≤ 32 := by have := HL.out.2; omega
  clear hv hvl hvm l32 lf lp m32 mf mp hK hN
  go_upto_region 6 with (first
    | (go_at_call 28; refine (L2.out _ (hy3.keep k4 (by simp))).mono ?_; rintro e w5 ⟨rfl, k5⟩)
    | (go_at_call 28; refine (L1.out _ hx3).mono ?_; rintro e w4 ⟨rfl, k4⟩)
    | fail)
  have k45 := k4.trans' k5
  have kk5 := k13.trans' k45
  have hx5 := hx3.keep k45 (by simp)
  have hy5 := hy3.keep k45 (by simp)
  have t5c := t5b.keep k45 (by simp)
  have t8c := t8b.keep k45 (by simp)
  have tBc := tB.keep k45 (by simp)
  have u6c := u6b.keep k45
  have u9c := u9b.keep k45
  have uCc := uC.keep k45
  clear t5b t8b tB u6b u9b uC hx3 hy3 k4 k5 k45 k13
  obtain ⟨N, hN, hso⟩ := size39
  have HSZ := Lib.hid hN
  clear hN
  go_upto_region 9 with fail
  go_loopw [14, 15, 16, 17, 18] (fun v14 v15 v16 _ _ wr => UnI w w5 l m p v14 v15 v16 wr) (fun _ _ v16 _ _ _ => p - (intOf v16).toNat)
  case atStart => exact ⟨0, 0, none, 0, by omega, rfl, by rw [HL.out.1]; rfl, rfl, rfl, Sl.nil _ _ _, by intro b hb; simp [blks, Value.ownBlock] at hb, Keep.refl _ _⟩
  case round =>
    obtain ⟨i, q, au, cu, hi, rfl, rfl, rfl, hq, sU, fU, kk⟩ := hrel
    obtain ⟨T, hT⟩ : ∃ T, l.length + cntN l (m.take i) = T := ⟨_, rfl⟩
    rw [hT]
    have T64 : T ≤ 64 := by have := cnt_le l (m.take i); rw [List.length_take] at this; have := HL.out.1; have := HL.out.2; omega
    have q32 : q ≤ 32 := by have := unl_le l (m.take i); rw [List.length_take] at this; have := HL.out.2; omega
    by_cases hlt : i < p
    · obtain ⟨y, g, off, ey, rfl, ry⟩ := (hy5.keep kk (by simp)).at hlt
      have j0 : (0 : Int) ≤ i := by omega
      have j1 : (i : Int) < p := by omega
      rw [HSZ.out] at ry
      obtain ⟨x, hxv⟩ : ∃ x, findV l y.act = x := ⟨_, rfl⟩
      have hus := unl_succ (l := l) ey
      have hcs := cnt_succ (l := l) ey
      have HU := Lib.hid (show x.cells.toArray.size = 65 by simpa using x.len)
      have hxr := hx5.keep kk (by simp)
      cases hb : findB l y.act with
      | false =>
        have F1 := Lib.hid (fun W h => by have := lawFind_any a n c l y.act W h y.la; rwa [hxv, hb] at this : ∀ W, RsIn W a n c l → Calls Try.prog 29 #[.slice a n c, .agg (bs y.act).toArray] W fun e w' => e = .returned (.tuple #[.agg x.cells.toArray, .bool false]) ∧ Keep [] W w')
        rw [hb, if_neg (by simp)] at hus
        rw [hb, if_neg (by simp)] at hcs
        rw [List.append_nil] at hus
        have HS := Lib.hid (And.intro hus (And.intro hcs (And.intro hq hT)))
        clear hus hcs hb hxv ey hq hT
        go_upto_region 12 with (first
          | (refine wpList_load_mid rfl 37 (.tmp 105) rfl g (off + i * N) rfl (bs y.act) _ (rangeAt_act ry) Try.underlying37 rfl (hi37 y.la) ?_)
          | (go_at_call 29; refine (F1.out _ hxr).mono ?_; rintro e w6 ⟨rfl, k6⟩)
          | (refine wpList_store_last rfl 39 (.tmp 17) (.tmp 108) rfl _ _ x.cells.toArray rfl rfl rfl (by rw [HU.out]; rfl) (by rw [HU.out]; rfl) (res_all x) ?_)
          | fail)
        have k7 : Keep [] wr (w6.alloc (.cells x.cells.toArray 39)) := k6.alloc _
        obtain ⟨W7, hW7⟩ : ∃ W, w6.alloc (.cells x.cells.toArray 39) = W := ⟨_, rfl⟩
        obtain ⟨PA, hPA⟩ : ∃ P, w6.heap.size = P := ⟨_, rfl⟩
        rw [hW7] at k7 ⊢
        rw [hPA]
        clear hW7 hPA k6
        have sU7 := sU.keep k7 (by simp)
        have kk7 := kk.trans' k7
        go_wp2_with fail
        refine ⟨⟨i + 1, q, au, cu, by omega, by go_num, ?_, rfl, by rw [HS.out.1]; exact HS.out.2.2.1, by rw [HS.out.1]; exact sU7, fU, kk7⟩, by simp [intOf]; omega⟩
        rw [HS.out.2.1, ← Nat.add_assoc, HS.out.2.2.2]; go_num
      | true =>
        have F1 := Lib.hid (fun W h => by have := lawFind_any a n c l y.act W h y.la; rwa [hxv, hb] at this : ∀ W, RsIn W a n c l → Calls Try.prog 29 #[.slice a n c, .agg (bs y.act).toArray] W fun e w' => e = .returned (.tuple #[.agg x.cells.toArray, .bool true]) ∧ Keep [] W w')
        rw [hb, if_pos rfl] at hcs
        replace hcs : cntN l (m.take (i + 1)) = cntN l (m.take i) := hcs
        rw [hb, hxv] at hus
        have HS := Lib.hid (And.intro hus (And.intro hcs (And.intro hq hT)))
        clear hus hcs hb hxv ey hq hT
        go_upto_region 12 with (first
          | (refine wpList_load_mid rfl 37 (.tmp 105) rfl g (off + i * N) rfl (bs y.act) _ (rangeAt_act ry) Try.underlying37 rfl (hi37 y.la) ?_)
          | (go_at_call 29; refine (F1.out _ hxr).mono ?_; rintro e w6 ⟨rfl, k6⟩)
          | (refine wpList_store_last rfl 39 (.tmp 17) (.tmp 108) rfl _ _ x.cells.toArray rfl rfl rfl (by rw [HU.out]; rfl) (by rw [HU.out]; rfl) (res_all x) ?_)
          | fail)
        have BX : Blk (w6.alloc (.cells x.cells.toArray 39)) w6.heap.size x.cells.toArray 39 := Blk.new _ _ _
        have k7 : Keep [] wr (w6.alloc (.cells x.cells.toArray 39)) := k6.alloc _
        obtain ⟨W7, hW7⟩ : ∃ W, w6.alloc (.cells x.cells.toArray 39) = W := ⟨_, rfl⟩
        obtain ⟨PA, hPA⟩ : ∃ P, w6.heap.size = P := ⟨_, rfl⟩
        rw [hW7] at k7 BX ⊢
        rw [hPA] at BX ⊢
        clear hW7 hPA k6
        have sU7 := sU.keep k7 (by simp)
        have kk7 := kk.trans' k7
        have rX := rangeAt_of_blk BX
        have ry7 := rangeAt_keep ry k7 (by simp)
        have l3 := load_range (N := N) rX (x.len.trans HSZ.out)
        have l4 := load_range (N := N) ry7 (y.len.trans HSZ.out)
        by_cases hxy : x = y
        · have q2 : ∀ w, (Op.equalIn 10000 39 (.agg x.cells.toArray) (.agg y.cells.toArray)).run Try.prog w = .ok true w := fun w => by rw [eql_res, decide_eq_true hxy]
          have HXY := Lib.hid hxy
          clear hxy
          go_upto_region 14 with fail
          go_quiet (fail)
          go_wp2_with fail
          have e1 : unl l (m.take (i + 1)) = unl l (m.take i) := by rw [HS.out.1, if_neg (by simp [HXY.out]), List.append_nil]
          refine ⟨⟨i + 1, q, au, cu, by omega, by go_num, ?_, rfl, by rw [e1]; exact HS.out.2.2.1, by rw [e1]; exact sU7, fU, kk7.drewN⟩, by simp [intOf]; omega⟩
          rw [HS.out.2.1, HS.out.2.2.2]
        · have q2 : ∀ w, (Op.equalIn 10000 39 (.agg x.cells.toArray) (.agg y.cells.toArray)).run Try.prog w = .ok false w := fun w => by rw [eql_res, decide_eq_false hxy]
          have HXY := Lib.hid hxy
          clear hxy
          go_upto_region 14 with fail
          go_quiet (fail)
          clear l3 l4 q2
          have kd : Keep [] W7 (W7.drewN nq) := (Keep.refl [] W7).drewN
          generalize W7.drewN nq = wd at kd ⊢
          have rXd := rangeAt_keep rX kd (by simp)
          have sUd := sU7.keep kd (by simp)
          have hab := lit37 sUd x.la
          have kkd := kk7.trans' kd
          obtain ⟨q8, hq8⟩ : ∃ q, wd.heap.size = q := ⟨_, rfl⟩
          obtain ⟨w9, hw9⟩ : ∃ W, wd.alloc (.cells (bs x.act).toArray 37) = W := ⟨_, rfl⟩
          rw [hw9, hq8] at hab
          have HW9 := Lib.hid hw9
          have HQ8 := Lib.hid hq8
          have HX32 := Lib.hid (show (bs x.act).length = 1 * 32 by rw [bs_length, x.la])
          clear hw9 hq8
          go_upto_region 10 with (first
            | (refine wpList_load_mid rfl 37 (.tmp 121) rfl PA 0 rfl (bs x.act) _ (rangeAt_act rXd) Try.underlying37 rfl (hi37 x.la) ?_)
            | (refine wpList_build1 rfl 45 37 (.tmp 122) rfl (bs x.act).toArray rfl (.agg (Array.replicate 32 (B8 0))) 32 32 under45 info37 (by simpa using HX32.out) (by omega) (by omega) ?_; rw [HW9.out, HQ8.out])
            | (at_builtin; go_must (refine wpList_appendN rfl (.tmp 120) (.tmp 123) 45 rfl 37 (.agg (Array.replicate 32 (B8 0))) 32 32 under45 info37 zero37 (by omega) (.slice au q cu) q (idCells (unl l (m.take i))) rfl hab.1 (some ⟨q8, 0, none⟩) 1 1 (bs x.act) rfl HX32.out (by simp) hab.2.1 (bs_one x.act) (by simp only [maxLen]; omega) (by omega) ?_; intro aE cE w10 hs6 hk6 hf6))
            | fail)
          have fU6 : Fr w5 [] (blks (.slice aE (q + 1) cE)) := fU.trans hf6 (kkd.trans' hab.2.2).size
          have kk10 : Keep [] w5 w10 := (kkd.trans' hab.2.2).trans hk6 (fun b hb => by rcases fU b hb with h | h; cases h; exact Or.inr h)
          clear hab hk6 hf6 rXd sUd HW9 HQ8
          go_wp2_with fail
          have e1 : unl l (m.take (i + 1)) = unl l (m.take i) ++ [x.act] := by rw [HS.out.1, if_pos (by simpa using HXY.out)]
          refine ⟨⟨i + 1, q + 1, aE, cE, by omega, by go_num, ?_, rfl, by rw [e1, List.length_append, HS.out.2.2.1]; rfl, by rw [e1, idCells_append, idCells_one]; exact hs6, fU6, kk10⟩, by simp [intOf]; omega⟩
          rw [HS.out.2.1, HS.out.2.2.2]
    · obtain rfl : i = p := by omega
      have hmt : m.take i = m := List.take_of_length_le (by rw [HL.out.2]; exact Nat.le_refl _)
      rw [hmt] at hq sU hT
      rw [HK.out] at hq sU
      have hTn : ∀ how, (joinO how l m).length = T := fun how => by rw [HN.out how, hT]
      obtain ⟨K, hKK⟩ : ∃ K, joinK l m = K := ⟨_, rfl⟩
      have h32K : ∀ j ∈ K, j.length = 32 := fun j hj => unl_32 (l := l) (m := m) j (by rw [HK.out, hKK]; exact hj)
      rw [hKK] at hq sU
      have uU : IdsIn wr au q K := ⟨hq, sU.rd, h32K⟩
      have hxd := hx5.keep kk (by simp)
      have hyd := hy5.keep kk (by simp)
      have t5d := t5c.keep kk (by simp)
      have t8d := t8c.keep kk (by simp)
      have tBd := tBc.keep kk (by simp)
      have u6d := u6c.keep kk
      have u9d := u9c.keep kk
      have uCd := uCc.keep kk
      have kkd := kk5.trans' kk
      have hvv : validR l = true ∧ validR m = true := HV.out
      obtain ⟨j1, j2, j3, j4, j5, j6, j7, j8, j9⟩ := HJ.out
      clear hi hlt sU fU kk t5c t8c tBc u6c u9c uCc hx5 hy5 HJ E1 E2 E3 hT hmt h32K L1 L2 kk5
      have qn : q ≤ 140737488355328 := by omega
      by_cases hT32 : 32 < T
      · have g1 := join_long (how := 1) (l := l) (m := m) (Or.inl rfl) hvv (by simp) (by rw [hTn 1]; exact hT32)
        have g2 := join_long (how := 2) (l := l) (m := m) (Or.inr (Or.inl rfl)) hvv (by simp) (by rw [hTn 2]; exact hT32)
        rw [j1, j2, j3] at g1
        rw [j4, j5, j6] at g2
        obtain ⟨rfl, rfl, rfl⟩ := g1
        obtain ⟨rfl, rfl, rfl⟩ := g2
        obtain rfl : n5 = 0 := t5d.hlen.symm
        obtain rfl : n8 = 0 := t8d.hlen.symm
        obtain rfl : n6 = 0 := u6d.hlen.symm
        obtain rfl : n9 = 0 := u9d.hlen.symm
        have iT : (32 : Int) < T := by omega
        by_cases hKe : K = []
        · have g3 := join_long (how := 3) (l := l) (m := m) (Or.inr (Or.inr rfl)) hvv (by rw [hKK, hKe]; simp) (by rw [hTn 3]; exact hT32)
          rw [j7, j8, j9] at g3
          obtain ⟨rfl, rfl, rfl⟩ := g3
          obtain rfl : nB = 0 := tBd.hlen.symm
          obtain rfl : nC = 0 := uCd.hlen.symm
          obtain rfl : q = 0 := by rw [← hq, hKe]; rfl
          clear j1 j2 j3 j4 j5 j6 j7 j8 j9 hTn hKe hq hKK hvv
          go_wp2_with (first
            | (go_at_call 24; refine (like_eq aB a5 0 cB 0 c5 [] _ tBd t5d).mono ?_; rintro e w6 ⟨rfl, k6⟩)
            | (go_at_call 27; refine (ids_eq aC a6 0 cC 0 c6 [] _ (uCd.keep k6) (u6d.keep k6) bC).mono ?_; rintro e w7 ⟨rfl, k7⟩)
            | (go_at_call 21; refine (awake_any _).mono ?_; rintro e w8 ⟨rfl, k8⟩)
            | fail)
          go_returns
          exact ⟨rfl, ((kkd.trans' k6).trans' k7).trans' k8⟩
        · have g3 := join_clash (how := 3) (l := l) (m := m) (Or.inr (Or.inr rfl)) hvv ⟨rfl, by rw [hKK]; exact hKe⟩
          rw [j7, j8, j9, hKK] at g3
          obtain ⟨rfl, rfl, rfl⟩ := g3
          obtain rfl : nB = 0 := tBd.hlen.symm
          have iq : (0 : Int) < q := by have := List.length_pos_iff.2 hKe; omega
          clear j1 j2 j3 j4 j5 j6 j7 j8 j9 hTn hKe hq hKK hvv
          go_wp2_with (first
            | (go_at_call 27; refine (ids_eq aC au nC cC q cu i3 _ uCd uU bC).mono ?_; rintro e w7 ⟨rfl, k7⟩)
            | (go_at_call 21; refine (awake_any _).mono ?_; rintro e w8 ⟨rfl, k8⟩)
            | fail)
          go_returns
          exact ⟨rfl, (kkd.trans' k7).trans' k8⟩
      · have g1 := join_yes (how := 1) (l := l) (m := m) (Or.inl rfl) hvv (by simp) (by rw [hTn 1]; exact hT32)
        have g2 := join_yes (how := 2) (l := l) (m := m) (Or.inr (Or.inl rfl)) hvv (by simp) (by rw [hTn 2]; exact hT32)
        rw [j1, j2, j3, hKK] at g1
        rw [j4, j5, j6, hKK] at g2
        obtain ⟨rfl, e1, rfl⟩ := g1
        obtain ⟨rfl, e2, rfl⟩ := g2
        have iT : (T : Int) ≤ 32 := by omega
        have hr1v : validR r1 = true := by rw [e1]; exact join_valid hvv.1 hvv.2 (by rw [hTn 1]; omega)
        have hr2v : validR r2 = true := by rw [e2]; exact join_valid hvv.1 hvv.2 (by rw [hTn 2]; omega)
        have hr1l : r1.length = T := by rw [e1]; exact hTn 1
        have hr2l : r2.length = T := by rw [e2]; exact hTn 2
        obtain rfl : n5 = T := by rw [← hr1l]; exact t5d.hlen.symm
        obtain rfl : n8 = n5 := by rw [← hr2l]; exact t8d.hlen.symm
        have hgo : ∀ (i : Nat) (k t : Res), r1[i]? = some k → r2[i]? = some t → Goes l m k t := fun i k t h h' => goes_at HP.out.1 HP.out.2 (by rw [← e1]; exact h) (by rw [← e2]; exact h')
        have hself := join_yes (how := 3) (l := r1) (m := r1) (Or.inr (Or.inr rfl)) ⟨hr1v, hr1v⟩ (by rw [(join_self 3 r1).2]; simp) (by rw [(join_self 3 r1).1]; omega)
        rw [(join_self 3 r1).1, (join_self 3 r1).2] at hself
        have hnone := join_yes (how := 3) (l := []) (m := r1) (Or.inr (Or.inr rfl)) ⟨by decide, hr1v⟩ (by rw [joinK_nil]; simp) (by rw [joinO_nil]; omega)
        rw [joinO_nil, joinK_nil] at hnone
        have J1 := Lib.hid (fun W h => (join_any a5 a5 n8 c5 n8 c5 r1 r1 3 W h h).mono (fun e w' hg => by have := giveN (by omega) hg; rwa [hself.1, hself.2.1, hself.2.2] at this) : ∀ W, RsIn W a5 n8 c5 r1 → Calls Try.prog 25 #[.slice a5 n8 c5, .slice a5 n8 c5, .int .i64 3] W (GiveN W r1 [] 0))
        have J2 := Lib.hid (fun W h => (join_any none a5 0 0 n8 c5 [] r1 3 W ⟨rfl, Or.inl rfl, by omega, fun _ => rfl, by omega, by omega⟩ h).mono (fun e w' hg => by have := giveN (by simp) hg; rwa [hnone.1, hnone.2.1, hnone.2.2] at this) : ∀ W, RsIn W a5 n8 c5 r1 → Calls Try.prog 25 #[.slice none 0 0, .slice a5 n8 c5, .int .i64 3] W (GiveN W r1 [] 0))
        have L3 := Lib.hid (fun W h => by have := lawFits_any a5 n8 c5 r1 W h; rwa [hr1v] at this : ∀ W, RsIn W a5 n8 c5 r1 → Calls Try.prog 28 #[.slice a5 n8 c5] W fun e w' => e = .returned (.bool true) ∧ Keep [] W w')
        have L4 := Lib.hid (fun W h => by have := lawFits_any a8 n8 c8 r2 W h; rwa [hr2v] at this : ∀ W, RsIn W a8 n8 c8 r2 → Calls Try.prog 28 #[.slice a8 n8 c8] W fun e w' => e = .returned (.bool true) ∧ Keep [] W w')
        have HGO := Lib.hid (And.intro hgo e1)
        clear hself hnone hr1v hr2v hr1l hr2l hgo e2
        by_cases hKe : i2 = []
        · have g3 := join_yes (how := 3) (l := l) (m := m) (Or.inr (Or.inr rfl)) hvv (by rw [hKK, hKe]; simp) (by rw [hTn 3]; exact hT32)
          rw [j7, j8, j9, hKK, join_3is1, ← e1] at g3
          obtain ⟨rfl, rfl, rfl⟩ := g3
          obtain rfl : q = 0 := by rw [← hq, hKe]; rfl
          clear j1 j2 j3 j4 j5 j6 j7 j8 j9 hTn hKe hq hKK hvv e1
          go_upto_region 21 with (first
            | (go_at_call 24; refine (like_eq aB a5 nB cB n8 c5 r3 _ tBd t5d).mono ?_; rintro e w6 ⟨rfl, k6⟩)
            | (go_at_call 27; refine (ids_eq aC a6 nC cC n6 c6 i3 _ (uCd.keep k6) (u6d.keep k6) bC).mono ?_; rintro e w7 ⟨rfl, k7⟩)
            | fail)
          have kE := k6.trans' k7
          have kkE := kkd.trans' kE
          have t5e := t5d.keep kE (by simp)
          have t8e := t8d.keep kE (by simp)
          have uUe := uU.keep kE
          have u6e := u6d.keep kE
          have u9e := u9d.keep kE
          have hxe := hxd.keep kE (by simp)
          have hye := hyd.keep kE (by simp)
          clear t5d t8d tBd u6d u9d uCd uU hxd hyd kE kkd
          go_upto_region 25 with (first
            | (go_at_call 27; refine (ids_eq a9 au n9 c9 0 cu i3 _ (u9e.keep kF) (uUe.keep kF) b9).mono ?_; rintro e wG ⟨rfl, kG⟩; have kFG := kF.trans' kG)
            | (go_at_call 27; refine (ids_eq a6 au n6 c6 0 cu i3 _ u6e uUe b6).mono ?_; rintro e wF ⟨rfl, kF⟩)
            | (go_at_call 28; refine (L4.out _ (t8e.keep kFH (by simp))).mono ?_; rintro e wI ⟨rfl, kI⟩)
            | (go_at_call 28; refine (L3.out _ (t5e.keep kFG (by simp))).mono ?_; rintro e wH ⟨rfl, kH⟩; have kFH := kFG.trans' kH)
            | fail)
          have kFI := kFH.trans' kI
          have t5f := t5e.keep kFI (by simp)
          have t8f := t8e.keep kFI (by simp)
          have hxf := hxe.keep kFI (by simp)
          have hyf := hye.keep kFI (by simp)
          have kkf := kkE.trans' kFI
          clear t5e t8e u6e u9e uUe hxe hye kF kG kFG kH kFH kI kFI kkE L3 L4
          go_upto_region 26 with fail
          go_loopw [19, 20, 21, 22, 23] (fun v19 _ _ _ _ wr => ∃ i : Nat, i ≤ n8 ∧ v19 = .int .i64 (i : Nat) ∧ Keep [] wI wr) (fun v19 _ _ _ _ _ => n8 - (intOf v19).toNat)
          case atStart => exact ⟨0, by omega, rfl, Keep.refl _ _⟩
          case round =>
            obtain ⟨s, hs, rfl, kk⟩ := hrel
            have t5r := t5f.keep kk (by simp)
            have t8r := t8f.keep kk (by simp)
            have hxr := hxf.keep kk (by simp)
            have hyr := hyf.keep kk (by simp)
            by_cases hlt : s < n8
            · obtain ⟨k, gk, ok, ek, rfl, rk⟩ := t5r.at hlt
              obtain ⟨t, gt, ot, et, rfl, rt⟩ := t8r.at hlt
              have j0 : (0 : Int) ≤ s := by omega
              have j1 : (s : Int) < n8 := by omega
              rw [HSZ.out] at rk rt
              have hG := HGO.out.1 s k t ek et
              obtain ⟨x, hxv⟩ : ∃ x, findV l k.act = x := ⟨_, rfl⟩
              obtain ⟨y, hyv⟩ : ∃ x, findV m k.act = x := ⟨_, rfl⟩
              obtain ⟨b1, hb1⟩ : ∃ x, findB l k.act = x := ⟨_, rfl⟩
              obtain ⟨b2, hb2⟩ : ∃ x, findB m k.act = x := ⟨_, rfl⟩
              have F1 := Lib.hid (fun W h => by have := lawFind_any a n c l k.act W h k.la; rwa [hxv, hb1] at this : ∀ W, RsIn W a n c l → Calls Try.prog 29 #[.slice a n c, .agg (bs k.act).toArray] W fun e w' => e = .returned (.tuple #[.agg x.cells.toArray, .bool b1]) ∧ Keep [] W w')
              have F2 := Lib.hid (fun W h => by have := lawFind_any b i d m k.act W h k.la; rwa [hyv, hb2] at this : ∀ W, RsIn W b i d m → Calls Try.prog 29 #[.slice b i d, .agg (bs k.act).toArray] W fun e w' => e = .returned (.tuple #[.agg y.cells.toArray, .bool b2]) ∧ Keep [] W w')
              have HX := Lib.hid (show x.cells.toArray.size = 65 by simpa using x.len)
              have HY := Lib.hid (show y.cells.toArray.size = 65 by simpa using y.len)
              have hcs : (b1 = true ∧ x = k ∧ b2 = false ∧ t = k) ∨ (b1 = false ∧ b2 = true ∧ y = k ∧ t = k) ∨ (b1 = true ∧ x = k ∧ b2 = true ∧ y = t) := by
                rcases hG with ⟨h1, h2, h3⟩ | ⟨h1, h2, h3⟩ | ⟨h1, h2⟩
                · exact Or.inl ⟨by rw [← hb1]; exact (find_some h1).2, by rw [← hxv]; exact (find_some h1).1, by rw [← hb2]; exact (find_none h2).2, h3⟩
                · exact Or.inr (Or.inl ⟨by rw [← hb1]; exact (find_none h1).2, by rw [← hb2]; exact (find_some h2).2, by rw [← hyv]; exact (find_some h2).1, h3⟩)
                · exact Or.inr (Or.inr ⟨by rw [← hb1]; exact (find_some h1).2, by rw [← hxv]; exact (find_some h1).1, by rw [← hb2]; exact (find_some h2).2, by rw [← hyv]; exact (find_some h2).1⟩)
              have q3 : ∀ w, (Op.equalIn 10000 39 (.agg k.cells.toArray) (.agg k.cells.toArray)).run Try.prog w = .ok true w := fun w => by rw [eql_res, decide_eq_true rfl]
              have q4 : ∀ w, (Op.equalIn 10000 39 (.agg t.cells.toArray) (.agg t.cells.toArray)).run Try.prog w = .ok true w := fun w => by rw [eql_res, decide_eq_true rfl]
              clear hG hxv hyv hb1 hb2 ek et
              go_upto_region 29 with (first
                | (refine wpList_load_mid rfl 37 (.tmp 231) rfl gk (ok + s * N) rfl (bs k.act) _ (rangeAt_act rk) Try.underlying37 rfl (hi37 k.la) ?_)
                | (go_at_call 29; refine (F1.out _ hxr).mono ?_; rintro e w6 ⟨rfl, k6⟩)
                | (refine wpList_store_last rfl 39 (.tmp 20) (.tmp 234) rfl _ _ x.cells.toArray rfl rfl rfl (by rw [HX.out]; rfl) (by rw [HX.out]; rfl) (res_all x) ?_)
                | fail)
              have BA : Blk (w6.alloc (.cells x.cells.toArray 39)) w6.heap.size x.cells.toArray 39 := Blk.new _ _ _
              have k7 : Keep [] wr (w6.alloc (.cells x.cells.toArray 39)) := k6.alloc _
              obtain ⟨W7, hW7⟩ : ∃ W, w6.alloc (.cells x.cells.toArray 39) = W := ⟨_, rfl⟩
              obtain ⟨PA, hPA⟩ : ∃ P, w6.heap.size = P := ⟨_, rfl⟩
              have pA : wr.heap.size ≤ PA := by have := k6.size; omega
              rw [hW7] at k7 BA ⊢
              rw [hPA] at BA ⊢
              clear hW7 hPA k6
              have rk7 := rangeAt_keep rk k7 (by simp)
              have rt7 := rangeAt_keep rt k7 (by simp)
              have hy7 := hyr.keep k7 (by simp)
              go_upto_region 30 with (first
                | (refine wpList_load_mid rfl 37 (.tmp 241) rfl gk (ok + s * N) rfl (bs k.act) _ (rangeAt_act rk7) Try.underlying37 rfl (hi37 k.la) ?_)
                | (go_at_call 29; refine (F2.out _ hy7).mono ?_; rintro e w8 ⟨rfl, k8⟩)
                | (refine wpList_store_last rfl 39 (.tmp 22) (.tmp 244) rfl _ _ y.cells.toArray rfl rfl rfl (by rw [HY.out]; rfl) (by rw [HY.out]; rfl) (res_all y) ?_)
                | fail)
              have BB : Blk (w8.alloc (.cells y.cells.toArray 39)) w8.heap.size y.cells.toArray 39 := Blk.new _ _ _
              have k9 : Keep [] W7 (w8.alloc (.cells y.cells.toArray 39)) := k8.alloc _
              obtain ⟨W9, hW9⟩ : ∃ W, w8.alloc (.cells y.cells.toArray 39) = W := ⟨_, rfl⟩
              obtain ⟨PB, hPB⟩ : ∃ P, w8.heap.size = P := ⟨_, rfl⟩
              have pB : wr.heap.size ≤ PB ∧ PA ≠ PB := by have := BA.lt; have := k7.size; have := k8.size; omega
              rw [hW9] at k9 BB ⊢
              rw [hPB] at BB ⊢
              clear hW9 hPB k8
              have rk9 := rangeAt_keep rk7 k9 (by simp)
              have rt9 := rangeAt_keep rt7 k9 (by simp)
              have BA9 := BA.keep k9 (by simp)
              have k79 := k7.trans' k9
              have hgk : gk < wr.heap.size := by
                have := rk 0 _ (List.getElem?_eq_getElem (by rw [k.len]; omega))
                exact World.block_lt_of_cell? wr (a := ⟨gk, ok + s * N + 0, none⟩) this
              have hgt : gt < wr.heap.size := by
                have := rt 0 _ (List.getElem?_eq_getElem (by rw [t.len]; omega))
                exact World.block_lt_of_cell? wr (a := ⟨gt, ot + s * N + 0, none⟩) this
              clear rk7 rt7 rk rt BA k7 k9 hy7
              rcases hcs with ⟨rfl, rfl, rfl, rfl⟩ | ⟨rfl, rfl, rfl, rfl⟩ | ⟨rfl, rfl, rfl, rfl⟩
              · have hst : Keep [PB] W9 (W9.setRow PB t.cells.toArray) := (Keep.refl [PB] W9).setRow (Or.inl (by simp)) _
                have B22 := BB.setRow t.cells.toArray
                obtain ⟨WA, hWA⟩ : ∃ W, W9.setRow PB t.cells.toArray = W := ⟨_, rfl⟩
                rw [hWA] at hst B22
                have rkA := rangeAt_keep rk9 hst (by simp only [List.mem_singleton]; omega)
                have rtA := rangeAt_keep rt9 hst (by simp only [List.mem_singleton]; omega)
                have B20 := BA9.keep hst (by simp only [List.mem_singleton]; exact pB.2)
                have l1 := load_range (N := N) rkA (t.len.trans HSZ.out)
                have l2 := load_range (N := N) rtA (t.len.trans HSZ.out)
                have l3 := load_range (N := N) (rangeAt_of_blk B20) (t.len.trans HSZ.out)
                have l4 := load_range (N := N) (rangeAt_of_blk B22) (t.len.trans HSZ.out)
                have HWA := Lib.hid hWA
                have kkA := (kk.trans' k79).trans hst (fun b hb => by simp only [List.mem_singleton] at hb; subst hb; have := kk.size; exact Or.inr (by omega))
                clear hWA
                go_upto_region 34 with (first
                  | (refine wpList_load_mid rfl 39 (.tmp 20) rfl PA 0 rfl t.cells _ (rangeAt_of_blk BA9) Try.underlying39 rfl (hi39 t) ?_)
                  | (refine wpList_store_row rfl 39 (.tmp 22) (.tmp 251) rfl PB t.cells.toArray rfl rfl 39 y.cells.toArray BB (by rw [HX.out]; rfl) (by rw [HX.out, HY.out]) (res_all t) ?_; rw [HWA.out])
                  | fail)
                go_quiet (fail)
                go_wp2_with fail
                exact ⟨⟨s + 1, by omega, by go_num, kkA.drewN⟩, by simp [intOf]; omega⟩
              · have hst : Keep [PA] W9 (W9.setRow PA t.cells.toArray) := (Keep.refl [PA] W9).setRow (Or.inl (by simp)) _
                have B20 := BA9.setRow t.cells.toArray
                obtain ⟨WA, hWA⟩ : ∃ W, W9.setRow PA t.cells.toArray = W := ⟨_, rfl⟩
                rw [hWA] at hst B20
                have rkA := rangeAt_keep rk9 hst (by simp only [List.mem_singleton]; omega)
                have rtA := rangeAt_keep rt9 hst (by simp only [List.mem_singleton]; omega)
                have B22 := BB.keep hst (by simp only [List.mem_singleton]; exact pB.2.symm)
                have l1 := load_range (N := N) rkA (t.len.trans HSZ.out)
                have l2 := load_range (N := N) rtA (t.len.trans HSZ.out)
                have l3 := load_range (N := N) (rangeAt_of_blk B20) (t.len.trans HSZ.out)
                have l4 := load_range (N := N) (rangeAt_of_blk B22) (t.len.trans HSZ.out)
                have HWA := Lib.hid hWA
                have kkA := (kk.trans' k79).trans hst (fun b hb => by simp only [List.mem_singleton] at hb; subst hb; have := kk.size; exact Or.inr (by omega))
                clear hWA
                go_upto_region 34 with (first
                  | (refine wpList_load_mid rfl 39 (.tmp 22) rfl PB 0 rfl t.cells _ (rangeAt_of_blk BB) Try.underlying39 rfl (hi39 t) ?_)
                  | (refine wpList_store_row rfl 39 (.tmp 20) (.tmp 248) rfl PA t.cells.toArray rfl rfl 39 x.cells.toArray BA9 (by rw [HY.out]; rfl) (by rw [HX.out, HY.out]) (res_all t) ?_; rw [HWA.out])
                  | fail)
                go_quiet (fail)
                go_wp2_with fail
                exact ⟨⟨s + 1, by omega, by go_num, kkA.drewN⟩, by simp [intOf]; omega⟩
              · have l1 := load_range (N := N) rk9 (x.len.trans HSZ.out)
                have l2 := load_range (N := N) rt9 (y.len.trans HSZ.out)
                have l3 := load_range (N := N) (rangeAt_of_blk BA9) (x.len.trans HSZ.out)
                have l4 := load_range (N := N) (rangeAt_of_blk BB) (y.len.trans HSZ.out)
                have kkA := kk.trans' k79
                go_upto_region 34 with fail
                go_quiet (fail)
                go_wp2_with fail
                exact ⟨⟨s + 1, by omega, by go_num, kkA.drewN⟩, by simp [intOf]; omega⟩
            · obtain rfl : s = n8 := by omega
              clear hs hlt t8r hxr hyr
              have kkr := kkf.trans' kk
              go_upto_region 37 with (first
                | (go_at_call 25; refine (J1.out _ t5r).mono ?_; rintro e wJ ⟨a24, n24, c24, a25, n25, c25, rfl, t24, u25, f24, f25, b25, kJ⟩)
                | fail)
              have t5s := t5r.keep kJ (by simp)
              obtain rfl : n25 = 0 := u25.hlen.symm
              go_upto_region 38 with (first
                | (go_at_call 25; refine (J2.out _ t5s).mono ?_; rintro e wL ⟨a27, n27, c27, a28, n28, c28, rfl, t27, u28, f27, f28, b28, kL⟩)
                | fail)
              have t5t := t5s.keep kL (by simp)
              have t24b := t24.keep kL (by simp)
              go_wp2_with (first
                | (go_at_call 24; refine (like_eq a27 a5 n27 c27 s c5 r3 _ (t27.keep kM (by simp)) (t5t.keep kM (by simp))).mono ?_; rintro e wN ⟨rfl, kN⟩)
                | (go_at_call 24; refine (like_eq a24 a5 n24 c24 s c5 r3 _ t24b t5t).mono ?_; rintro e wM ⟨rfl, kM⟩)
                | (go_at_call 21; refine (awake_any _).mono ?_; rintro e wO ⟨rfl, kO⟩)
                | fail)
              go_returns
              exact ⟨rfl, ((((kkr.trans' kJ).trans' kL).trans' kM).trans' kN).trans' kO⟩
        · have g3 := join_clash (how := 3) (l := l) (m := m) (Or.inr (Or.inr rfl)) hvv ⟨rfl, by rw [hKK]; exact hKe⟩
          rw [j7, j8, j9, hKK] at g3
          obtain ⟨rfl, rfl, rfl⟩ := g3
          obtain rfl : nB = 0 := tBd.hlen.symm
          have iq : (0 : Int) < q := by have := List.length_pos_iff.2 hKe; omega
          clear j1 j2 j3 j4 j5 j6 j7 j8 j9 hTn hKe hq hKK hvv e1
          go_upto_region 21 with (first
            | (go_at_call 27; refine (ids_eq aC au nC cC q cu i3 _ uCd uU bC).mono ?_; rintro e w7 ⟨rfl, kE⟩)
            | fail)
          have kkE := kkd.trans' kE
          have t5e := t5d.keep kE (by simp)
          have t8e := t8d.keep kE (by simp)
          have uUe := uU.keep kE
          have u6e := u6d.keep kE
          have u9e := u9d.keep kE
          have hxe := hxd.keep kE (by simp)
          have hye := hyd.keep kE (by simp)
          clear t5d t8d tBd u6d u9d uCd uU hxd hyd kE kkd
          go_upto_region 25 with (first
            | (go_at_call 27; refine (ids_eq a9 au n9 c9 q cu i3 _ (u9e.keep kF) (uUe.keep kF) b9).mono ?_; rintro e wG ⟨rfl, kG⟩; have kFG := kF.trans' kG)
            | (go_at_call 27; refine (ids_eq a6 au n6 c6 q cu i3 _ u6e uUe b6).mono ?_; rintro e wF ⟨rfl, kF⟩)
            | (go_at_call 28; refine (L4.out _ (t8e.keep kFH (by simp))).mono ?_; rintro e wI ⟨rfl, kI⟩)
            | (go_at_call 28; refine (L3.out _ (t5e.keep kFG (by simp))).mono ?_; rintro e wH ⟨rfl, kH⟩; have kFH := kFG.trans' kH)
            | fail)
          have kFI := kFH.trans' kI
          have t5f := t5e.keep kFI (by simp)
          have t8f := t8e.keep kFI (by simp)
          have hxf := hxe.keep kFI (by simp)
          have hyf := hye.keep kFI (by simp)
          have kkf := kkE.trans' kFI
          clear t5e t8e u6e u9e uUe hxe hye kF kG kFG kH kFH kI kFI kkE L3 L4
          go_upto_region 26 with fail
          go_loopw [19, 20, 21, 22, 23] (fun v19 _ _ _ _ wr => ∃ i : Nat, i ≤ n8 ∧ v19 = .int .i64 (i : Nat) ∧ Keep [] wI wr) (fun v19 _ _ _ _ _ => n8 - (intOf v19).toNat)
          case atStart => exact ⟨0, by omega, rfl, Keep.refl _ _⟩
          case round =>
            obtain ⟨s, hs, rfl, kk⟩ := hrel
            have t5r := t5f.keep kk (by simp)
            have t8r := t8f.keep kk (by simp)
            have hxr := hxf.keep kk (by simp)
            have hyr := hyf.keep kk (by simp)
            by_cases hlt : s < n8
            · obtain ⟨k, gk, ok, ek, rfl, rk⟩ := t5r.at hlt
              obtain ⟨t, gt, ot, et, rfl, rt⟩ := t8r.at hlt
              have j0 : (0 : Int) ≤ s := by omega
              have j1 : (s : Int) < n8 := by omega
              rw [HSZ.out] at rk rt
              have hG := HGO.out.1 s k t ek et
              obtain ⟨x, hxv⟩ : ∃ x, findV l k.act = x := ⟨_, rfl⟩
              obtain ⟨y, hyv⟩ : ∃ x, findV m k.act = x := ⟨_, rfl⟩
              obtain ⟨b1, hb1⟩ : ∃ x, findB l k.act = x := ⟨_, rfl⟩
              obtain ⟨b2, hb2⟩ : ∃ x, findB m k.act = x := ⟨_, rfl⟩
              have F1 := Lib.hid (fun W h => by have := lawFind_any a n c l k.act W h k.la; rwa [hxv, hb1] at this : ∀ W, RsIn W a n c l → Calls Try.prog 29 #[.slice a n c, .agg (bs k.act).toArray] W fun e w' => e = .returned (.tuple #[.agg x.cells.toArray, .bool b1]) ∧ Keep [] W w')
              have F2 := Lib.hid (fun W h => by have := lawFind_any b i d m k.act W h k.la; rwa [hyv, hb2] at this : ∀ W, RsIn W b i d m → Calls Try.prog 29 #[.slice b i d, .agg (bs k.act).toArray] W fun e w' => e = .returned (.tuple #[.agg y.cells.toArray, .bool b2]) ∧ Keep [] W w')
              have HX := Lib.hid (show x.cells.toArray.size = 65 by simpa using x.len)
              have HY := Lib.hid (show y.cells.toArray.size = 65 by simpa using y.len)
              have hcs : (b1 = true ∧ x = k ∧ b2 = false ∧ t = k) ∨ (b1 = false ∧ b2 = true ∧ y = k ∧ t = k) ∨ (b1 = true ∧ x = k ∧ b2 = true ∧ y = t) := by
                rcases hG with ⟨h1, h2, h3⟩ | ⟨h1, h2, h3⟩ | ⟨h1, h2⟩
                · exact Or.inl ⟨by rw [← hb1]; exact (find_some h1).2, by rw [← hxv]; exact (find_some h1).1, by rw [← hb2]; exact (find_none h2).2, h3⟩
                · exact Or.inr (Or.inl ⟨by rw [← hb1]; exact (find_none h1).2, by rw [← hb2]; exact (find_some h2).2, by rw [← hyv]; exact (find_some h2).1, h3⟩)
                · exact Or.inr (Or.inr ⟨by rw [← hb1]; exact (find_some h1).2, by rw [← hxv]; exact (find_some h1).1, by rw [← hb2]; exact (find_some h2).2, by rw [← hyv]; exact (find_some h2).1⟩)
              have q3 : ∀ w, (Op.equalIn 10000 39 (.agg k.cells.toArray) (.agg k.cells.toArray)).run Try.prog w = .ok true w := fun w => by rw [eql_res, decide_eq_true rfl]
              have q4 : ∀ w, (Op.equalIn 10000 39 (.agg t.cells.toArray) (.agg t.cells.toArray)).run Try.prog w = .ok true w := fun w => by rw [eql_res, decide_eq_true rfl]
              clear hG hxv hyv hb1 hb2 ek et
              go_upto_region 29 with (first
                | (refine wpList_load_mid rfl 37 (.tmp 231) rfl gk (ok + s * N) rfl (bs k.act) _ (rangeAt_act rk) Try.underlying37 rfl (hi37 k.la) ?_)
                | (go_at_call 29; refine (F1.out _ hxr).mono ?_; rintro e w6 ⟨rfl, k6⟩)
                | (refine wpList_store_last rfl 39 (.tmp 20) (.tmp 234) rfl _ _ x.cells.toArray rfl rfl rfl (by rw [HX.out]; rfl) (by rw [HX.out]; rfl) (res_all x) ?_)
                | fail)
              have BA : Blk (w6.alloc (.cells x.cells.toArray 39)) w6.heap.size x.cells.toArray 39 := Blk.new _ _ _
              have k7 : Keep [] wr (w6.alloc (.cells x.cells.toArray 39)) := k6.alloc _
              obtain ⟨W7, hW7⟩ : ∃ W, w6.alloc (.cells x.cells.toArray 39) = W := ⟨_, rfl⟩
              obtain ⟨PA, hPA⟩ : ∃ P, w6.heap.size = P := ⟨_, rfl⟩
              have pA : wr.heap.size ≤ PA := by have := k6.size; omega
              rw [hW7] at k7 BA ⊢
              rw [hPA] at BA ⊢
              clear hW7 hPA k6
              have rk7 := rangeAt_keep rk k7 (by simp)
              have rt7 := rangeAt_keep rt k7 (by simp)
              have hy7 := hyr.keep k7 (by simp)
              go_upto_region 30 with (first
                | (refine wpList_load_mid rfl 37 (.tmp 241) rfl gk (ok + s * N) rfl (bs k.act) _ (rangeAt_act rk7) Try.underlying37 rfl (hi37 k.la) ?_)
                | (go_at_call 29; refine (F2.out _ hy7).mono ?_; rintro e w8 ⟨rfl, k8⟩)
                | (refine wpList_store_last rfl 39 (.tmp 22) (.tmp 244) rfl _ _ y.cells.toArray rfl rfl rfl (by rw [HY.out]; rfl) (by rw [HY.out]; rfl) (res_all y) ?_)
                | fail)
              have BB : Blk (w8.alloc (.cells y.cells.toArray 39)) w8.heap.size y.cells.toArray 39 := Blk.new _ _ _
              have k9 : Keep [] W7 (w8.alloc (.cells y.cells.toArray 39)) := k8.alloc _
              obtain ⟨W9, hW9⟩ : ∃ W, w8.alloc (.cells y.cells.toArray 39) = W := ⟨_, rfl⟩
              obtain ⟨PB, hPB⟩ : ∃ P, w8.heap.size = P := ⟨_, rfl⟩
              have pB : wr.heap.size ≤ PB ∧ PA ≠ PB := by have := BA.lt; have := k7.size; have := k8.size; omega
              rw [hW9] at k9 BB ⊢
              rw [hPB] at BB ⊢
              clear hW9 hPB k8
              have rk9 := rangeAt_keep rk7 k9 (by simp)
              have rt9 := rangeAt_keep rt7 k9 (by simp)
              have BA9 := BA.keep k9 (by simp)
              have k79 := k7.trans' k9
              have hgk : gk < wr.heap.size := by
                have := rk 0 _ (List.getElem?_eq_getElem (by rw [k.len]; omega))
                exact World.block_lt_of_cell? wr (a := ⟨gk, ok + s * N + 0, none⟩) this
              have hgt : gt < wr.heap.size := by
                have := rt 0 _ (List.getElem?_eq_getElem (by rw [t.len]; omega))
                exact World.block_lt_of_cell? wr (a := ⟨gt, ot + s * N + 0, none⟩) this
              clear rk7 rt7 rk rt BA k7 k9 hy7
              rcases hcs with ⟨rfl, rfl, rfl, rfl⟩ | ⟨rfl, rfl, rfl, rfl⟩ | ⟨rfl, rfl, rfl, rfl⟩
              · have hst : Keep [PB] W9 (W9.setRow PB t.cells.toArray) := (Keep.refl [PB] W9).setRow (Or.inl (by simp)) _
                have B22 := BB.setRow t.cells.toArray
                obtain ⟨WA, hWA⟩ : ∃ W, W9.setRow PB t.cells.toArray = W := ⟨_, rfl⟩
                rw [hWA] at hst B22
                have rkA := rangeAt_keep rk9 hst (by simp only [List.mem_singleton]; omega)
                have rtA := rangeAt_keep rt9 hst (by simp only [List.mem_singleton]; omega)
                have B20 := BA9.keep hst (by simp only [List.mem_singleton]; exact pB.2)
                have l1 := load_range (N := N) rkA (t.len.trans HSZ.out)
                have l2 := load_range (N := N) rtA (t.len.trans HSZ.out)
                have l3 := load_range (N := N) (rangeAt_of_blk B20) (t.len.trans HSZ.out)
                have l4 := load_range (N := N) (rangeAt_of_blk B22) (t.len.trans HSZ.out)
                have HWA := Lib.hid hWA
                have kkA := (kk.trans' k79).trans hst (fun b hb => by simp only [List.mem_singleton] at hb; subst hb; have := kk.size; exact Or.inr (by omega))
                clear hWA
                go_upto_region 34 with (first
                  | (refine wpList_load_mid rfl 39 (.tmp 20) rfl PA 0 rfl t.cells _ (rangeAt_of_blk BA9) Try.underlying39 rfl (hi39 t) ?_)
                  | (refine wpList_store_row rfl 39 (.tmp 22) (.tmp 251) rfl PB t.cells.toArray rfl rfl 39 y.cells.toArray BB (by rw [HX.out]; rfl) (by rw [HX.out, HY.out]) (res_all t) ?_; rw [HWA.out])
                  | fail)
                go_quiet (fail)
                go_wp2_with fail
                exact ⟨⟨s + 1, by omega, by go_num, kkA.drewN⟩, by simp [intOf]; omega⟩
              · have hst : Keep [PA] W9 (W9.setRow PA t.cells.toArray) := (Keep.refl [PA] W9).setRow (Or.inl (by simp)) _
                have B20 := BA9.setRow t.cells.toArray
                obtain ⟨WA, hWA⟩ : ∃ W, W9.setRow PA t.cells.toArray = W := ⟨_, rfl⟩
                rw [hWA] at hst B20
                have rkA := rangeAt_keep rk9 hst (by simp only [List.mem_singleton]; omega)
                have rtA := rangeAt_keep rt9 hst (by simp only [List.mem_singleton]; omega)
                have B22 := BB.keep hst (by simp only [List.mem_singleton]; exact pB.2.symm)
                have l1 := load_range (N := N) rkA (t.len.trans HSZ.out)
                have l2 := load_range (N := N) rtA (t.len.trans HSZ.out)
                have l3 := load_range (N := N) (rangeAt_of_blk B20) (t.len.trans HSZ.out)
                have l4 := load_range (N := N) (rangeAt_of_blk B22) (t.len.trans HSZ.out)
                have HWA := Lib.hid hWA
                have kkA := (kk.trans' k79).trans hst (fun b hb => by simp only [List.mem_singleton] at hb; subst hb; have := kk.size; exact Or.inr (by omega))
                clear hWA
                go_upto_region 34 with (first
                  | (refine wpList_load_mid rfl 39 (.tmp 22) rfl PB 0 rfl t.cells _ (rangeAt_of_blk BB) Try.underlying39 rfl (hi39 t) ?_)
                  | (refine wpList_store_row rfl 39 (.tmp 20) (.tmp 248) rfl PA t.cells.toArray rfl rfl 39 x.cells.toArray BA9 (by rw [HY.out]; rfl) (by rw [HX.out, HY.out]) (res_all t) ?_; rw [HWA.out])
                  | fail)
                go_quiet (fail)
                go_wp2_with fail
                exact ⟨⟨s + 1, by omega, by go_num, kkA.drewN⟩, by simp [intOf]; omega⟩
              · have l1 := load_range (N := N) rk9 (x.len.trans HSZ.out)
                have l2 := load_range (N := N) rt9 (y.len.trans HSZ.out)
                have l3 := load_range (N := N) (rangeAt_of_blk BA9) (x.len.trans HSZ.out)
                have l4 := load_range (N := N) (rangeAt_of_blk BB) (y.len.trans HSZ.out)
                have kkA := kk.trans' k79
                go_upto_region 34 with fail
                go_quiet (fail)
                go_wp2_with fail
                exact ⟨⟨s + 1, by omega, by go_num, kkA.drewN⟩, by simp [intOf]; omega⟩
            · obtain rfl : s = n8 := by omega
              clear hs hlt t8r hxr hyr
              have kkr := kkf.trans' kk
              go_upto_region 37 with (first
                | (go_at_call 25; refine (J1.out _ t5r).mono ?_; rintro e wJ ⟨a24, n24, c24, a25, n25, c25, rfl, t24, u25, f24, f25, b25, kJ⟩)
                | fail)
              have t5s := t5r.keep kJ (by simp)
              obtain rfl : n25 = 0 := u25.hlen.symm
              go_upto_region 38 with (first
                | (go_at_call 25; refine (J2.out _ t5s).mono ?_; rintro e wL ⟨a27, n27, c27, a28, n28, c28, rfl, t27, u28, f27, f28, b28, kL⟩)
                | fail)
              have t5t := t5s.keep kL (by simp)
              have t24b := t24.keep kL (by simp)
              go_wp2_with (first
                | (go_at_call 24; refine (like_eq a27 a5 n27 c27 s c5 r1 _ (t27.keep kM (by simp)) (t5t.keep kM (by simp))).mono ?_; rintro e wN ⟨rfl, kN⟩)
                | (go_at_call 24; refine (like_eq a24 a5 n24 c24 s c5 r1 _ t24b t5t).mono ?_; rintro e wM ⟨rfl, kM⟩)
                | (go_at_call 21; refine (awake_any _).mono ?_; rintro e wO ⟨rfl, kO⟩)
                | fail)
              go_returns
              exact ⟨rfl, ((((kkr.trans' kJ).trans' kL).trans' kM).trans' kN).trans' kO⟩
end Go.Proofs.Ytjdkeabimcajlaa

/- The reference's Full. -/
import Derived.Test.YtpocegdlobnhaaaIb
import Derived.Test.YtpocegdlobnhaaaDS
set_option linter.unusedVariables false
set_option linter.unusedSimpArgs false
set_option maxRecDepth 100000
namespace Go.Proofs.Ytpocegdlobnhaaa.Dig
open Go.RowKit

set_option maxHeartbeats 8000000 in
set_option maxRecDepth 100000 in
theorem refFull_any (xs : List UInt8) (n cap : Nat) (pa : Option Addr) (w : World) (hx : InBytes w pa n cap xs) (hn : n + 128 ≤ 140737488355328) :
    Calls Try.prog 53 #[.slice pa n cap] w fun e w' => e = .returned (.agg (bs (sha xs)).toArray) ∧ Keep [] w w' := by
  obtain ⟨KT, hKT⟩ : ∃ KT, KT = u32s ktab := ⟨_, rfl⟩
  have kl : KT.length = 64 := by rw [hKT]; rfl
  have ka : KT.toArray.all (·.oneCell') = true := by rw [hKT]; exact u32s_all _
  have htab : ∀ W, Calls Try.prog 92 #[] W fun e w' => e = .returned (.agg KT.toArray) ∧ w' = W.alloc (.cells KT.toArray 149) := fun W => by rw [hKT]; exact table_any W
  have HK := Lib.hid hKT
  have HTAB := Lib.hid htab
  obtain ⟨F0, hF0⟩ : ∃ F0, F0 = (u32s first).toArray := ⟨_, rfl⟩
  have fs : F0.size = 8 := by rw [hF0]; rfl
  have fa : F0.all (·.oneCell') = true := by rw [hF0]; exact u32s_all _
  have hfst : ∀ W, Calls Try.prog 91 #[] W fun e w' => e = .returned (.agg F0) ∧ w' = W.alloc (.cells F0 147) := fun W => by rw [hF0]; exact first_any W
  have HF := Lib.hid hF0
  have HFST := Lib.hid hfst
  clear hKT htab hF0 hfst
  obtain ⟨Z, hZ, hz⟩ := zero70
  have H70 : Hid ((Try.prog.info? 149).map (·.size) = some KT.toArray.size) := by
    show _ = _
    rw [List.size_toArray, kl]; rfl
  have HZK : Hid (Z.size = KT.toArray.size) := by
    show _ = _
    rw [hZ]; simp [kl]
  go_enter Try.func53, Try.ntmps53
  go_upto_region 3 with (first
    | (go_at_call 91; refine (HFST.out _).mono ?_; rintro e w1 ⟨rfl, rfl⟩)
    | (go_at_call 92; refine (HTAB.out _).mono ?_; rintro e w2 ⟨rfl, rfl⟩)
    | (refine wpList_store_last rfl 147 (.tmp 3) (.tmp 9) rfl _ _ F0 rfl (by simp) rfl (by rw [fs]; rfl) (by rw [fs]; rfl) fa ?_)
    | (refine wpList_store_last rfl 149 (.tmp 4) (.tmp 10) rfl _ _ KT.toArray rfl ?_ rfl H70.out HZK.out ka ?_; · simp)
    | fail)
  generalize hW : (((((w.alloc _).alloc _).alloc _).alloc _).alloc _ : World) = W
  have BR : Blk W w.heap.size (bs (List.replicate 32 0)).toArray 25 := by rw [← hW]; exact ((((Blk.new w _ 25).alloc _).alloc _).alloc _).alloc _
  have BS : Blk W (w.heap.size + 1 + 1) F0 147 := by rw [← hW]; exact ((Blk.new' _ F0 147 (by simp)).alloc _).alloc _
  have BT : Blk W (w.heap.size + 1 + 1 + 1 + 1) KT.toArray 149 := by rw [← hW]; exact Blk.new' _ _ 149 (by simp)
  have kW : Keep [] w W := by rw [← hW]; exact (((((Keep.refl [] w).alloc _).alloc _).alloc _).alloc _).alloc _
  clear hW
  obtain ⟨R, hR⟩ : ∃ R, R = w.heap.size := ⟨_, rfl⟩
  obtain ⟨St, hSt⟩ : ∃ St, St = w.heap.size + 1 + 1 := ⟨_, rfl⟩
  obtain ⟨Tb, hTb⟩ : ∃ Tb, Tb = w.heap.size + 1 + 1 + 1 + 1 := ⟨_, rfl⟩
  have n1 : R ≠ St := by omega
  have n2 : R ≠ Tb := by omega
  have n3 : St ≠ Tb := by omega
  have l1 : w.heap.size ≤ R := by omega
  have l2 : w.heap.size ≤ St := by omega
  rw [← hR] at BR
  rw [← hSt] at BS
  rw [← hTb] at BT
  rw [← hTb, ← hSt, ← hR]
  clear hR hSt hTb
  have hrow := row_any xs n cap pa W (hx.keep kW (by simp)) hn
  have HROW := Lib.hid hrow
  clear hrow hz hZ
  go_wp2_with (first
    | (go_at_call 93; refine HROW.out.mono ?_; rintro e w3 ⟨v, rfl, hS, ho, hk3⟩)
    | fail)
  have hF1 : F0 = (u32s (absorb (pad xs) 0)).toArray := HF.out
  rw [hF1] at BS
  obtain ⟨L, hL⟩ : ∃ L, (pad xs).length = L := ⟨_, rfl⟩
  obtain ⟨N, hN⟩ : ∃ N, L = 64 * N := ⟨_, by rw [← hL]; exact pad_length xs⟩
  have hLb : L ≤ 140737488355328 := by
    rw [← hL, pad]
    have := padz_lt xs.length
    have := hx.hlen
    simp only [List.length_append, List.length_cons, List.length_replicate, be8_length]
    omega
  rw [hL] at hS
  have k3 := kW.trans' hk3
  have BS3 := BS.keep hk3 (by simp)
  have BT3 := BT.keep hk3 (by simp)
  have BR3 := BR.keep hk3 (by simp)
  obtain ⟨av, cp, rfl, -, -, hcap1, hcap2, -⟩ := hS.form
  have hoS : St ∉ blks (.slice av L cp) ∧ R ∉ blks (.slice av L cp) := ⟨fun h => by have := ho _ h; have := BS.lt; omega, fun h => by have := ho _ h; have := BR.lt; omega⟩
  have HLL := Lib.hid hL
  have HN := Lib.hid hN
  have HO := Lib.hid hoS
  clear hN hF1 BS BT BR hk3 kW hL ho hoS fs fa ka hx HFST HTAB HF H70 HZK HROW
  go_loopw [6] (fun v6 wr => ∃ k, k ≤ N ∧ v6 = .int .i64 ((64 * k : Nat) : Int) ∧ Blk wr St (u32s (absorb (pad xs) k)).toArray 147 ∧ Blk wr Tb KT.toArray 149 ∧ Blk wr R (bs (List.replicate 32 0)).toArray 25 ∧ Sl wr 5 1 (.slice av L cp) L (bs (pad xs)) ∧ Keep [] w wr) (fun v6 _ => L - (intOf v6).toNat)
  case atStart => exact ⟨0, by omega, rfl, BS3, BT3, BR3, hS, k3⟩
  case round =>
    clear BS3 BT3 BR3 hS k3
    obtain ⟨k, hk, rfl, BS, BT, BR, hS, kk⟩ := hrel
    by_cases hlt : k < N
    · have hN := HN.out
      obtain ⟨p, hp⟩ : ∃ p, 64 * k = p := ⟨_, rfl⟩
      rw [hp]
      obtain ⟨s0, s1, s2, s3, s4, s5, s6, s7, hst⟩ := eight (absorb_length (pad xs) k)
      obtain ⟨a, b, c, d, e, f, g, h, hst'⟩ := eight (absorb_length (pad xs) (k + 1))
      rw [hst] at BS
      obtain ⟨bl, hbl⟩ : ∃ bl, ((pad xs).drop p).take 64 = bl := ⟨_, rfl⟩
      have bl64 : bl.length = 64 := by rw [← hbl, List.length_take, List.length_drop, HLL.out]; omega
      have hcomp : compS (sched bl) [s0, s1, s2, s3, s4, s5, s6, s7] = [a, b, c, d, e, f, g, h] := by
        rw [← hst', ← hst, ← hbl, ← hp]; rfl
      obtain ⟨gb, off, rfl, hcells⟩ : ∃ gb off, av = some ⟨gb, off, none⟩ ∧ ∀ j v, (bs (pad xs))[j]? = some v → wr.cell? ⟨gb, off + j, none⟩ = some v := by
        rcases hS.rd with e | ⟨b, o, e, hc⟩
        · have := congrArg List.length e; rw [bs_length, HLL.out] at this; simp at this; omega
        · exact ⟨b, o, e, hc⟩
      have hrd : Rd wr (some ⟨gb, off + p, none⟩) (bs bl) := by
        refine Or.inr ⟨gb, off + p, rfl, fun j v hv => ?_⟩
        rw [Nat.add_assoc]
        refine hcells (p + j) v ?_
        rw [← hbl, bs, List.getElem?_map, List.getElem?_take] at hv
        split at hv
        · rw [List.getElem?_drop] at hv; rw [bs, List.getElem?_map]; exact hv
        · simp at hv
      have hturn : ∀ W, Keep [] wr W → Calls Try.prog 94 #[.agg #[.int .u32 s0, .int .u32 s1, .int .u32 s2, .int .u32 s3, .int .u32 s4, .int .u32 s5, .int .u32 s6, .int .u32 s7], .slice (some ⟨gb, off + p, none⟩) 64 (cp - p), .agg KT.toArray] W fun ee w' => ee = .returned (.agg #[.int .u32 a, .int .u32 b, .int .u32 c, .int .u32 d, .int .u32 e, .int .u32 f, .int .u32 g, .int .u32 h]) ∧ Keep [] W w' := fun W hW => by
        have := refTurn_any (sched bl) [s0, s1, s2, s3, s4, s5, s6, s7] bl W (some ⟨gb, off + p, none⟩) (cp - p) rfl bl64 (sched_is bl) (hrd.keep hW (by simp))
        rw [hcomp, ← HK.out] at this
        exact this
      have HT := Lib.hid hturn
      have HST := Lib.hid hst'
      have HP := Lib.hid hp
      have c0 : wr.cell? ⟨St, 0, none⟩ = some (.int .u32 s0) := BS.cell (i := 0) rfl
      have c1 : wr.cell? ⟨St, 1, none⟩ = some (.int .u32 s1) := BS.cell (i := 1) rfl
      have c2 : wr.cell? ⟨St, 2, none⟩ = some (.int .u32 s2) := BS.cell (i := 2) rfl
      have c3 : wr.cell? ⟨St, 3, none⟩ = some (.int .u32 s3) := BS.cell (i := 3) rfl
      have c4 : wr.cell? ⟨St, 4, none⟩ = some (.int .u32 s4) := BS.cell (i := 4) rfl
      have c5 : wr.cell? ⟨St, 5, none⟩ = some (.int .u32 s5) := BS.cell (i := 5) rfl
      have c6 : wr.cell? ⟨St, 6, none⟩ = some (.int .u32 s6) := BS.cell (i := 6) rfl
      have c7 : wr.cell? ⟨St, 7, none⟩ = some (.int .u32 s7) := BS.cell (i := 7) rfl
      have q1 : (p : Int) < L := by omega
      have q2 : (p : Int) + 64 ≤ cp := by omega
      have q3 : (0 : Int) ≤ p := by omega
      have q4 : ¬ cp = p := by omega
      have q5 : IntKind.i64.wrap ((p : Int) + 64) = p + 64 := IntWalk.i64_in _ (by omega)
      have q6 : ((p : Int) + 64).toNat = p + 64 := by omega
      have q7 : (p : Int) ≤ p + 64 := by omega
      have q8 : (0 : Int) ≤ (p : Int) + 64 := by omega
      have q9 : p + 64 - p = 64 := by omega
      obtain ⟨N64, hN64⟩ : ∃ m, KT.length = m := ⟨_, rfl⟩
      have hso : ∀ w, (sizeOf 149).run Try.prog w = .ok N64 w := fun w => by rw [← hN64, kl]; exact Try.sizeOf149 w
      have hld : (loadCells ⟨Tb, 0, none⟩ N64).run Try.prog wr.drew = .ok KT.toArray wr.drew := by
        rw [← hN64]
        exact run_loadCells_list (P := Try.prog) wr.drew ⟨Tb, 0, none⟩ KT (fun j v hv => by
          rw [add_off, Nat.zero_add]; exact BT.drew.cell (by simpa using hv))
      have hld' : (loadCellsFrom ⟨Tb, 0, none⟩ 0 N64 #[]).run Try.prog wr.drew = .ok KT.toArray wr.drew := hld
      have kd : Keep [] wr wr.drew := (Keep.refl [] wr).drew
      clear hN hturn hst hst' hp hcells hrd hcomp hbl bl64
      go_upto_region 7 with fail
      go_region_with ((go_at_call 94; go_must (refine (HT.out _ kd).mono ?_); go_must (rintro ee w5 ⟨rfl, hk5⟩; have BS5 := BS.keep (kd.trans' hk5) (by simp); have f0 := BS5.free (i := 0); have f1 := BS5.free (i := 1); have f2 := BS5.free (i := 2); have f3 := BS5.free (i := 3); have f4 := BS5.free (i := 4); have f5 := BS5.free (i := 5); have f6 := BS5.free (i := 6); have f7 := BS5.free (i := 7); have d0 := BS5.cell (i := 0) (v := .int .u32 s0) rfl; have d1 := BS5.cell (i := 1) (v := .int .u32 s1) rfl; have d2 := BS5.cell (i := 2) (v := .int .u32 s2) rfl; have d3 := BS5.cell (i := 3) (v := .int .u32 s3) rfl; have d4 := BS5.cell (i := 4) (v := .int .u32 s4) rfl; have d5 := BS5.cell (i := 5) (v := .int .u32 s5) rfl; have d6 := BS5.cell (i := 6) (v := .int .u32 s6) rfl; have d7 := BS5.cell (i := 7) (v := .int .u32 s7) rfl)))
      all_goals go_wp2
      all_goals (
        have hm : St ∈ [St] ∨ wr.heap.size ≤ St := Or.inl (by simp)
        have ks := (((((((((kd.trans' hk5).mono (T := [St]) (by simp)).set (a := ⟨St, 0, none⟩) hm (.int .u32 a)).set (a := ⟨St, 1, none⟩) hm (.int .u32 b)).set (a := ⟨St, 2, none⟩) hm (.int .u32 c)).set (a := ⟨St, 3, none⟩) hm (.int .u32 d)).set (a := ⟨St, 4, none⟩) hm (.int .u32 e)).set (a := ⟨St, 5, none⟩) hm (.int .u32 f)).set (a := ⟨St, 6, none⟩) hm (.int .u32 g)).set (a := ⟨St, 7, none⟩) hm (.int .u32 h)
        have hpp := HP.out
        refine ⟨⟨k + 1, by omega, by congr 1; omega, ?_, BT.keep ks (by simpa using n3.symm), BR.keep ks (by simpa using n1), hS.keep ks (fun x hx => by simp only [List.mem_singleton]; rintro rfl; exact HO.out.1 hx), kk.trans ks (by simpa using l2)⟩, by simp [intOf]; omega⟩
        rw [HST.out]
        exact Blk.set8 BS5)
    · have hN := HN.out
      have hkN : k = N := by omega
      subst hkN
      obtain ⟨st, hst⟩ : ∃ st, absorb (pad xs) k = st := ⟨_, rfl⟩
      have s8 : st.length = 8 := by rw [← hst]; exact absorb_length _ _
      have hsha : outB st = sha xs := by
        rw [sha, ← hst]
        congr 2
        rw [HLL.out]; omega
      rw [hst] at BS
      obtain ⟨O, hO⟩ : ∃ O, O = wr.heap.size := ⟨_, rfl⟩
      have l3 := BS.lt
      have l4 := BR.lt
      have o1 : O ≠ St := by omega
      have o2 : O ≠ R := by omega
      have o3 : w.heap.size ≤ O := by have := kk.size; omega
      have t1 : ¬ (((64 * k : Nat) : Int)) < L := by omega
      have t2 : ¬ (64 * (k : Int)) < L := by omega
      have HS8 := Lib.hid s8
      have HSH := Lib.hid hsha
      clear hN hst s8 hsha l3 l4 hk
      go_wp2_with fail
      rw [← hO]
      go_loopw [8] (fun v wx => ∃ i, i ≤ 32 ∧ v = .int .i64 (i : Nat) ∧ Blk wx St (u32s st).toArray 147 ∧ Blk wx R (bs (List.replicate 32 0)).toArray 25 ∧ Blk wx O (bs (upTo (outB st) i)).toArray 25 ∧ Keep [] w wx) (fun v _ => 32 - (intOf v).toNat)
      case atStart => exact ⟨0, by omega, rfl, BS.alloc _, BR.alloc _, by rw [hO, upTo_none, outB_length, HS8.out]; exact Blk.new wr _ 25, kk.alloc _⟩
      case round =>
        clear BS BT BR hS kk hO
        obtain ⟨i, hi, rfl, BS, BR, BO, kk⟩ := hrel
        by_cases hlt : i < 32
        · have h8 := HS8.out
          have ol : (outB st).length = 32 := by rw [outB_length, h8]
          have ul : (upTo (outB st) i).length = 32 := by rw [upTo_length _ (by omega), ol]
          obtain ⟨y, ey⟩ : ∃ x, (upTo (outB st) i)[i]? = some x := ⟨_, List.getElem?_eq_getElem (by rw [ul]; exact hlt)⟩
          obtain ⟨q, hq⟩ : ∃ q, i / 4 = q := ⟨_, rfl⟩
          obtain ⟨r, hr⟩ : ∃ r, i % 4 = r := ⟨_, rfl⟩
          have hq8 : q < 8 := by omega
          have hr4 : r < 4 := by omega
          obtain ⟨x, hx⟩ : ∃ x, st[q]? = some x := ⟨_, List.getElem?_eq_getElem (by omega)⟩
          have hob : (outB st)[i]? = some (UInt8.ofNat (x / 2 ^ (24 - 8 * r) % 256).toNat) := by
            obtain ⟨g0, g1, g2, g3⟩ := outB_get hx
            have hi4 : i = 4 * q + r := by omega
            have : r = 0 ∨ r = 1 ∨ r = 2 ∨ r = 3 := by omega
            rcases this with h | h | h | h <;> rw [hi4, h]
            · exact g0
            · exact g1
            · exact g2
            · rw [g3]; simp
          have cS : wr.cell? ⟨St, q, none⟩ = some (.int .u32 x) := BS.cell (by simp [u32s, hx])
          have cO : wr.cell? ⟨O, i, none⟩ = some (B8 y) := BO.cell (by simp [bs, ey])
          have fO := BO.free (i := i)
          have d1 : (i : Int).tdiv 4 = q := by rw [← hq]; rfl
          have d2 : (i : Int).tmod 4 = r := by rw [← hr]; rfl
          have d3 : (i : Int) / 4 = q := by omega
          have d4 : (i : Int) % 4 = r := by omega
          have s1 : (0 : Int) ≤ 24 - 8 * (r : Int) := by omega
          have s2 : 24 - 8 * (r : Int) ≤ 32 := by omega
          have s3 : IntKind.i64.wrap (24 - 8 * (r : Int)) = 24 - 8 * r := IntWalk.i64_in _ (by omega)
          have s4 : (24 - 8 * (r : Int)).toNat = 24 - 8 * r := by omega
          have s5 : IntKind.i64.wrap (8 * (r : Int)) = 8 * r := IntWalk.i64_in _ (by omega)
          have s6 : 8 * (r : Int) ≤ 24 := by omega
          have s7 : (q : Int) < 8 := by omega
          have HOB := Lib.hid hob
          clear h8 ol ul ey hq hr hx hob
          go_wp2_with fail
          rw [ofNat_B8]
          refine ⟨⟨i + 1, by omega, by go_num, BS.setOther (by simpa using o1.symm) _, BR.setOther (by simpa using o2.symm) _, ?_, kk.set (Or.inr o3) _⟩, by simp [intOf]; omega⟩
          have := BO.set i (B8 (UInt8.ofNat (x / 2 ^ (24 - 8 * r) % 256).toNat))
          rw [← bs_set, upTo_set HOB.out] at this
          exact this
        · obtain rfl : i = 32 := by omega
          have hall : upTo (outB st) 32 = sha xs := by
            have := upTo_all (outB st)
            rw [outB_length, HS8.out] at this
            rw [this, HSH.out]
          rw [hall] at BO
          have hsz : (bs (sha xs)).toArray.size = 32 := by simp [sha_length]
          have hall1 : (bs (sha xs)).toArray.all (·.oneCell') = true := all_oneCell_toArray (bs_one _)
          clear hall
          go_wp2_with (first
            | (refine wpList_load_row rfl 25 (.tmp 7) rfl O rfl 25 (bs (sha xs)).toArray (0, 0) _ BO Try.underlying25 rfl (by rw [hsz]; rfl) ?_)
            | (refine wpList_store_row rfl 25 (.tmp 2) (.tmp 43) rfl R (bs (sha xs)).toArray rfl rfl 25 (bs (List.replicate 32 0)).toArray BR (by rw [hsz]; rfl) (by rw [hsz]; rfl) hall1 ?_)
            | fail)
          exact bodyPost_ret (results_cell_row rfl _ _ R 25 (bs (sha xs)).toArray (0, 0) _ rfl (BR.setRow _) Try.underlying25 rfl (by rw [hsz]; rfl)) rfl ⟨rfl, kk.setRow (Or.inr l1) _⟩
end Go.Proofs.Ytpocegdlobnhaaa.Dig

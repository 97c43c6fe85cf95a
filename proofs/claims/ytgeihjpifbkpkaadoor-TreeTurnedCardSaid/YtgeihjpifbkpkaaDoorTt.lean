/- turned: entries with one thing turned. TreeTurned: its walk. -/
import Derived.Test.YtgeihjpifbkpkaaDoorTe
set_option linter.unusedVariables false
set_option linter.unusedSimpArgs false
namespace Go.Proofs.YtgeihjpifbkpkaaDoor
open Go.RowKit

theorem cells_setG {l : List Ent} {m j : Nat} {y y' : Ent} {v : Value} (h : l[m]? = some y) (hj : j < 34) (hy : y.cells.set j v = y'.cells) : (cellsOf l).set (m * 34 + j) v = cellsOf (l.set m y') := by
  have hi := (List.getElem?_eq_some_iff.1 h).1
  have hl : (cellsOf (l.take m)).length = m * 34 := by rw [cellsOf_len, List.length_take, Nat.min_eq_left (by omega)]
  rw [cells_split h, cellsOf_set h, List.set_append_right _ _ (by omega), hl, Nat.add_sub_cancel_left, List.set_append_left _ _ (by rw [y.len]; omega), hy]
theorem names_set {l : List Ent} {m : Nat} {y : Ent} (hn : ∀ x ∈ l, x.name.size ≤ 9223372036854775807) (hy : y.name.size ≤ 9223372036854775807) : ∀ x ∈ l.set m y, x.name.size ≤ 9223372036854775807 := by
  intro x hx
  rcases List.mem_or_eq_of_mem_set hx with h1 | h1
  · exact hn x h1
  · subst h1; exact hy
theorem names_app {l : List Ent} {y : Ent} (hn : ∀ x ∈ l, x.name.size ≤ 9223372036854775807) (hy : y.name.size ≤ 9223372036854775807) : ∀ x ∈ l ++ [y], x.name.size ≤ 9223372036854775807 := by
  intro x hx
  rcases List.mem_append.1 hx with h1 | h1
  · exact hn x h1
  · obtain rfl := List.mem_singleton.1 h1; exact hy
def TurnQ (w : World) (e : Ending) (w' : World) : Prop :=
  ∃ a' n' c' l', e = .returned (.slice a' n' c') ∧ l'.length = n' ∧ Sl w' 37 34 (.slice a' n' c') n' (cellsOf l') ∧ (∀ x ∈ l', x.name.size ≤ 9223372036854775807) ∧ n' ≤ 2600000000000 ∧ Fr w [] (blks (.slice a' n' c')) ∧ Keep [] w w'
theorem turn_bnd {n : Nat} (h : n * 56 ≤ 140737488351232) : n ≤ 2513169434843 := by omega
theorem app_bnd {n : Nat} (h : n ≤ 2513169434843) : (n + 1) * 56 ≤ 140737488355328 ∧ n + 1 ≤ maxLen := by unfold maxLen; omega
theorem Sl.at37 {w : World} {g off n c k : Nat} {l : List Ent} {x : Ent} (h : Sl w 37 34 (.slice (some ⟨g, off, none⟩) n c) n (cellsOf l)) (hx : l[k]? = some x) : w.rangeAt g (off + k * 34) x.cells := by
  rcases h.rd with e | ⟨b', o', e, hc⟩
  · have h1 := congrArg List.length e
    have h2 := (List.getElem?_eq_some_iff.1 hx).1
    rw [cellsOf_len] at h1; simp only [List.length_nil] at h1; omega
  · obtain ⟨rfl, rfl⟩ : g = b' ∧ off = o' := by simpa [sAddr] using e
    intro j v hv
    have hj := (List.getElem?_eq_some_iff.1 hv).1
    rw [Ent.len] at hj
    rw [Nat.add_assoc]
    exact hc _ v ((cellsOf_get hx hj).trans hv)
theorem sl_putE {w : World} {g off n c k : Nat} {l : List Ent} {y x : Ent} (h : Sl w 37 34 (.slice (some ⟨g, off, none⟩) n c) n (cellsOf l)) (hy : l[k]? = some y) :
    w.there g (off + k * 34) x.cells.length ∧ Sl (w.setCells g (off + k * 34) x.cells) 37 34 (.slice (some ⟨g, off, none⟩) n c) n (cellsOf (l.set k x)) ∧ Keep [g] w (w.setCells g (off + k * 34) x.cells) := by
  have hi := (List.getElem?_eq_some_iff.1 hy).1
  have hl : (cellsOf (l.take k)).length = k * 34 := by rw [cellsOf_len, List.length_take, Nat.min_eq_left (by omega)]
  have := h.splice (o := off + k * 34) (news := x.cells) (cells_split hy) (by rw [hl]) (by rw [x.len, y.len]) x.one
  rwa [← cellsOf_set hy x] at this

set_option maxHeartbeats 4000000 in
set_option maxRecDepth 100000 in
theorem turned_any (a : Option Addr) (n c : Nat) (l : List Ent) (how at' : Int) (nm : ByteArray) (kd : Int) (w : World) (hx : EsIn w a n c l) (hn : nm.size ≤ 9223372036854775807) :
    Calls Tryd.prog 24 #[.slice a n c, .int .i64 how, .int .i64 at', .string nm, .int .i64 kd] w (TurnQ w) := by
  have hnb := turn_bnd hx.short
  have HB := Lib.hid (app_bnd hnb)
  have hb0 : n * 56 ≤ 140737488355328 ∧ n ≤ maxLen := by have := HB.out; unfold maxLen at *; omega
  have HB0 := Lib.hid hb0
  have HL := Lib.hid hx.hlen
  have HNM := Lib.hid hx.names
  have HN0 := Lib.hid hn
  have hnil := hx.hnil
  have r0 := hx.rd
  obtain ⟨N, hN, hso⟩ := size37
  have HN := Lib.hid hN
  clear hb0 hx hN hn
  go_enter Tryd.func24, Tryd.ntmps24
  go_upto_region 2 with (first
    | (at_builtin; go_must (refine wpList_app0 w rfl (.tmp 14) (.tmp 15) 24 rfl 37 _ 34 56 Tryd.underlying24 info37 zeroC37 (by omega) rfl a n c (cellsOf l) rfl (by rw [cellsOf_len, HL.out]) hnil r0 (cellsOf_all l) HB0.out.2 HB0.out.1 ?_; intro aw cw w2 hs2 k2 F2))
    | fail)
  clear r0 hnil
  by_cases h0 : n = 0
  · have i0 : ((n : Int) == 0) = true := by simp; omega
    have i00 : (n : Int) = 0 := by omega
    go_upto_region 3 with fail
    obtain ⟨x, hx⟩ : ∃ x, ent0 nm kd = x := ⟨_, rfl⟩
    have HBU := Lib.hid (show Tryd.prog.built 37 [(0, .string nm), (1, .int .i64 kd)] = some x.cells.toArray by rw [← hx]; exact built_ent2 nm kd)
    have HXN := Lib.hid (show x.name.size ≤ 9223372036854775807 by rw [← hx]; exact HN0.out)
    clear hx
    obtain ⟨q8, hq8⟩ : ∃ q, w2.heap.size = q := ⟨_, rfl⟩
    obtain ⟨w9, hw9⟩ : ∃ W, w2.alloc (.cells x.cells.toArray 37) = W := ⟨_, rfl⟩
    have hab := after_build (x := x) hs2
    rw [hw9, hq8] at hab
    have HW9 := Lib.hid hw9
    have HQ8 := Lib.hid hq8
    have kk9 := k2.trans' hab.2.2
    clear hw9 hq8
    go_wp2_with (first
      | (refine wpList_built2 rfl 37 0 1 (.tmp 21) (.tmp 22) rfl (.string nm) (.int .i64 kd) rfl rfl x.cells.toArray HBU.out ?_)
      | (refine wpList_build1 rfl 24 37 (.tmp 23) rfl x.cells.toArray rfl _ 34 56 Tryd.underlying24 info37 (by simp [x.len]) (by omega) (by omega) ?_; rw [HW9.out, HQ8.out])
      | (at_builtin; go_must (refine wpList_appendN rfl (.tmp 20) (.tmp 24) 24 rfl 37 _ 34 56 Tryd.underlying24 info37 zeroC37 (by omega) (.slice aw n cw) n (cellsOf l) rfl hab.1 (some ⟨q8, 0, none⟩) 1 1 x.cells rfl (ent_len1 x) (by simp) hab.2.1 x.one HB.out.2 HB.out.1 ?_; intro a6 c6 w6 hs6 hk6 hf6))
      | fail)
    have kk6 : Keep [] w w6 := kk9.trans hk6 (fun b hb => by rcases F2 b hb with h | h; cases h; exact Or.inr h)
    have F6 := F2.trans hf6 kk9.size
    have HQ : TurnQ w (.returned (.slice a6 (n + 1) c6)) w6 := ⟨a6, n + 1, c6, l ++ [x], rfl, by rw [List.length_append, HL.out]; rfl, by rw [cellsOf_append, cellsOf_one]; exact hs6, names_app HNM.out HXN.out, by omega, F6, kk6⟩
    have HQ := Lib.hid HQ
    go_returns
    subst h0; exact HQ.out
  · have i0 : ((n : Int) == 0) = false := by simp; omega
    have i00 : ¬ (n : Int) = 0 := by omega
    obtain ⟨T, hTm⟩ : ∃ T, at'.tmod n = T := ⟨_, rfl⟩
    have t1 : -(n : Int) < T := by rw [← hTm]; exact Int.lt_tmod_of_pos at' (by omega)
    have t2 : T < n := by rw [← hTm]; exact Int.tmod_lt_of_pos at' (by omega)
    have t3 : IntKind.i64.wrap T = T := IntWalk.i64_in _ (by omega)
    have t4 : IntKind.i64.wrap (T + n) = T + n := IntWalk.i64_in _ (by omega)
    have hway : ∃ K : Nat, K < n ∧ ((T < 0 ∧ T + n = (K : Int)) ∨ (¬ T < 0 ∧ T = (K : Int))) := by
      by_cases hneg : T < 0
      · exact ⟨(T + n).toNat, by omega, Or.inl ⟨hneg, by omega⟩⟩
      · exact ⟨T.toNat, by omega, Or.inr ⟨hneg, by omega⟩⟩
    obtain ⟨K, hK, hway⟩ := hway
    obtain ⟨gw, ow, rfl, -⟩ := hs2.rd.at (k := 0) (by rw [cellsOf_len, HL.out]; omega)
    obtain ⟨y, hy⟩ : ∃ y, l[K]? = some y := ⟨_, List.getElem?_eq_getElem (by rw [HL.out]; omega)⟩
    obtain ⟨y0, hy0⟩ : ∃ y, l[0]? = some y := ⟨_, List.getElem?_eq_getElem (by rw [HL.out]; omega)⟩
    have HY := Lib.hid hy
    have HY0 := Lib.hid hy0
    have HGW := Lib.hid (fr_old F2 gw (by simp [blks, Value.ownBlock]))
    have hYN := HNM.out y (List.mem_of_getElem? hy)
    have HYN := Lib.hid hYN
    have HYN0 := Lib.hid (HNM.out y0 (List.mem_of_getElem? hy0))
    have b1 : (K : Int) < n := by omega
    have b2 : (0 : Int) ≤ K := by omega
    have b3 : (0 : Int) < n := by omega
    clear hy hy0 hYN t1 t2
    rcases hway with ⟨hneg, hk⟩ | ⟨hneg, hk⟩
    · rw [hk] at t4
      go_upto_region 7 with fail
      have KW : Keep [] w w2 := k2
      by_cases q1 : how = 1
      · subst q1
        obtain ⟨y', hy'⟩ : ∃ y' : Ent, (⟨nm, y.kind, y.id, y.li⟩ : Ent) = y' := ⟨_, rfl⟩
        obtain ⟨p1, p2, p3⟩ := hs2.putC (k := K * 34 + 0) (by rw [cellsOf_len, HL.out]; omega) (.string nm)
        rw [cells_setG HY.out (by omega) (y' := y') (by rw [← hy']; rfl)] at p1
        have hKN : K * 34 = K * N := by rw [HN.out]
        rw [Nat.add_zero, hKN] at p1 p2 p3
        have cK := rangeAt_name (hs2.at37 HY.out)
        rw [hKN] at cK
        clear hKN
        have HQ := Lib.hid (show TurnQ w (.returned (.slice (some ⟨gw, ow, none⟩) n cw)) _ from ⟨_, n, cw, l.set K y', rfl, by rw [List.length_set]; exact HL.out, p1, names_set HNM.out (by rw [← hy']; exact HN0.out), by omega, F2, k2.trans p2 (fun b hb => by simp only [List.mem_singleton] at hb; subst hb; exact Or.inr HGW.out)⟩)
        clear p1 p2 hy' hs2 F2 k2 KW
        go_wp2_with fail
        go_returns
        exact HQ.out
      have d1 : (how == 1) = false := by simpa using q1
      by_cases q2 : how = 2
      · subst q2
        obtain ⟨y', hy'⟩ : ∃ y' : Ent, (⟨y.name, kd, y.id, y.li⟩ : Ent) = y' := ⟨_, rfl⟩
        obtain ⟨p1, p2, p3⟩ := hs2.putC (k := K * 34 + 1) (by rw [cellsOf_len, HL.out]; omega) (.int .i64 kd)
        rw [cells_setG HY.out (by omega) (y' := y') (by rw [← hy']; rfl)] at p1
        have hKN : K * 34 = K * N := by rw [HN.out]
        rw [hKN, ← Nat.add_assoc] at p1 p2 p3
        have cK := rangeAt_kind (hs2.at37 HY.out)
        rw [hKN] at cK
        clear hKN
        have HQ := Lib.hid (show TurnQ w (.returned (.slice (some ⟨gw, ow, none⟩) n cw)) _ from ⟨_, n, cw, l.set K y', rfl, by rw [List.length_set]; exact HL.out, p1, names_set HNM.out (by rw [← hy']; exact HYN.out), by omega, F2, k2.trans p2 (fun b hb => by simp only [List.mem_singleton] at hb; subst hb; exact Or.inr HGW.out)⟩)
        clear p1 p2 hy' hs2 F2 k2 KW
        go_wp2_with fail
        go_returns
        exact HQ.out
      have d2 : (how == 2) = false := by simpa using q2
      by_cases q3 : how = 3
      · subst q3
        have hKN : K * 34 = K * N := by rw [HN.out]
        have rK := hs2.at37 HY.out
        rw [hKN] at rK
        have HY34 := Lib.hid (show y.cells.toArray.size = 34 by simpa using y.len)
        have BX : Blk (w2.alloc (.cells y.cells.toArray 37)) w2.heap.size y.cells.toArray 37 := Blk.new _ _ _
        have kx : Keep [] w2 (w2.alloc (.cells y.cells.toArray 37)) := (Keep.refl [] w2).alloc _
        obtain ⟨W3, hW3⟩ : ∃ W, w2.alloc (.cells y.cells.toArray 37) = W := ⟨_, rfl⟩
        obtain ⟨px, hpx⟩ : ∃ p, w2.heap.size = p := ⟨_, rfl⟩
        have hpg : px ≠ gw := by have := hs2.lt gw (by simp [blks, Value.ownBlock]); omega
        rw [hW3] at BX kx
        rw [hpx] at BX
        have HW3 := Lib.hid hW3
        have HPX := Lib.hid hpx
        have s3 := hs2.keep kx (by simp)
        have r30 := s3.at37 HY0.out
        rw [Nat.zero_mul, Nat.add_zero] at r30
        obtain ⟨tt, s4, k4⟩ := sl_putE (x := y0) s3 HY.out
        rw [hKN] at tt s4 k4
        obtain ⟨W4, hW4⟩ : ∃ W, W3.setCells gw (ow + K * N) y0.cells = W := ⟨_, rfl⟩
        rw [hW4] at s4 k4
        have HW4 := Lib.hid hW4
        have B4 := BX.keep k4 (by simpa using hpg)
        have r4 := rangeAt_of_blk B4
        obtain ⟨ys, hys⟩ : ∃ ys, (l.set K y0)[0]? = some ys := ⟨_, List.getElem?_eq_getElem (by rw [List.length_set, HL.out]; omega)⟩
        obtain ⟨t5, s5, k5⟩ := sl_putE (x := y) s4 hys
        rw [Nat.zero_mul, Nat.add_zero] at t5 s5 k5
        have HQ := Lib.hid (show TurnQ w (.returned (.slice (some ⟨gw, ow, none⟩) n cw)) _ from ⟨_, n, cw, (l.set K y0).set 0 y, rfl, by rw [List.length_set, List.length_set]; exact HL.out, s5, names_set (names_set HNM.out HYN0.out) HYN.out, by omega, F2, ((k2.trans' kx).trans k4 (fun b hb => by simp only [List.mem_singleton] at hb; subst hb; exact Or.inr HGW.out)).trans k5 (fun b hb => by simp only [List.mem_singleton] at hb; subst hb; exact Or.inr HGW.out)⟩)
        have HA0 := Lib.hid (ent_all y0)
        have HA := Lib.hid (ent_all y)
        clear hW3 hW4 hpx hKN s3 s4 s5 k4 k5 kx BX B4 hys hs2 F2 k2 KW
        go_upto_region 15 with (first
          | (refine wpList_load_mid rfl 37 (.tmp 61) rfl gw (ow + K * N) rfl y.cells _ rK Tryd.underlying37 rfl (hi37 y) ?_)
          | (refine wpList_store_last rfl 37 (.tmp 13) (.tmp 62) rfl _ _ y.cells.toArray rfl rfl rfl (by rw [HY34.out]; rfl) (by rw [HY34.out]; rfl) HA.out ?_)
          | fail)
        rw [HW3.out, HPX.out]
        go_upto_region 16 with (first
          | (refine wpList_load_mid rfl 37 (.tmp 66) rfl gw ow rfl y0.cells _ r30 Tryd.underlying37 rfl (hi37 y0) ?_)
          | (refine wpList_store_mid rfl 37 (.tmp 68) (.tmp 67) rfl gw (ow + K * N) y0.cells.toArray rfl rfl tt (by simpa using hi37 y0) HA0.out ?_)
          | fail)
        rw [HW4.out]
        go_wp2_with (first
          | (refine wpList_load_mid rfl 37 (.tmp 13) rfl px 0 rfl y.cells _ r4 Tryd.underlying37 rfl (hi37 y) ?_)
          | (refine wpList_store_mid rfl 37 (.tmp 71) (.tmp 70) rfl gw ow y.cells.toArray rfl rfl t5 (by simpa using hi37 y) HA.out ?_)
          | fail)
        go_returns
        exact HQ.out
      have d3 : (how == 3) = false := by simpa using q3
      by_cases q4 : how = 4
      · subst q4
        obtain ⟨x, hx⟩ : ∃ x, y = x := ⟨_, rfl⟩
        have rK := hs2.at37 HY.out
        rw [hx, HN.out] at rK
        have HXN := HYN
        rw [hx] at HXN
        have HBU : Hid True := Lib.hid trivial
        clear hx
        obtain ⟨q8, hq8⟩ : ∃ q, w2.heap.size = q := ⟨_, rfl⟩
        obtain ⟨w9, hw9⟩ : ∃ W, w2.alloc (.cells x.cells.toArray 37) = W := ⟨_, rfl⟩
        have hab := after_build (x := x) hs2
        rw [hw9, hq8] at hab
        have HW9 := Lib.hid hw9
        have HQ8 := Lib.hid hq8
        have kk9 := k2.trans' hab.2.2
        clear hw9 hq8
        go_upto_region 19 with (first
          | (refine wpList_load_mid rfl 37 (.tmp 77) rfl gw (ow + K * N) rfl x.cells _ rK Tryd.underlying37 rfl (hi37 x) ?_)
          | (refine wpList_build1 rfl 24 37 (.tmp 78) rfl x.cells.toArray rfl _ 34 56 Tryd.underlying24 info37 (by simp [x.len]) (by omega) (by omega) ?_; rw [HW9.out, HQ8.out])
          | (at_builtin; go_must (refine wpList_appendN rfl (.tmp 74) (.tmp 79) 24 rfl 37 _ 34 56 Tryd.underlying24 info37 zeroC37 (by omega) (.slice (some ⟨gw, ow, none⟩) n cw) n (cellsOf l) rfl hab.1 (some ⟨q8, 0, none⟩) 1 1 x.cells rfl (ent_len1 x) (by simp) hab.2.1 x.one HB.out.2 HB.out.1 ?_; intro a6 c6 w6 hs6 hk6 hf6))
          | fail)
        have kk6 : Keep [] w w6 := kk9.trans hk6 (fun b hb => by rcases F2 b hb with h | h; cases h; exact Or.inr h)
        have F6 := F2.trans hf6 kk9.size
        have HQ : TurnQ w (.returned (.slice a6 (n + 1) c6)) w6 := ⟨a6, n + 1, c6, l ++ [x], rfl, by rw [List.length_append, HL.out]; rfl, by rw [cellsOf_append, cellsOf_one]; exact hs6, names_app HNM.out HXN.out, by omega, F6, kk6⟩
        have HQ := Lib.hid HQ
        clear hk6 hf6 hab kk6 F6 hs6 HW9 HQ8 hs2 kk9 k2 F2
        go_wp2_with fail
        go_returns
        exact HQ.out
      have d4 : (how == 4) = false := by simpa using q4
      obtain ⟨x, hx⟩ : ∃ x, ent0 nm kd = x := ⟨_, rfl⟩
      have HBU := Lib.hid (show Tryd.prog.built 37 [(0, .string nm), (1, .int .i64 kd)] = some x.cells.toArray by rw [← hx]; exact built_ent2 nm kd)
      have HXN := Lib.hid (show x.name.size ≤ 9223372036854775807 by rw [← hx]; exact HN0.out)
      clear hx
      obtain ⟨q8, hq8⟩ : ∃ q, w2.heap.size = q := ⟨_, rfl⟩
      obtain ⟨w9, hw9⟩ : ∃ W, w2.alloc (.cells x.cells.toArray 37) = W := ⟨_, rfl⟩
      have hab := after_build (x := x) hs2
      rw [hw9, hq8] at hab
      have HW9 := Lib.hid hw9
      have HQ8 := Lib.hid hq8
      have kk9 := k2.trans' hab.2.2
      clear hw9 hq8
      go_upto_region 19 with (first
        | (refine wpList_built2 rfl 37 0 1 (.tmp 38) (.tmp 39) rfl (.string nm) (.int .i64 kd) rfl rfl x.cells.toArray HBU.out ?_)
        | (refine wpList_build1 rfl 24 37 (.tmp 40) rfl x.cells.toArray rfl _ 34 56 Tryd.underlying24 info37 (by simp [x.len]) (by omega) (by omega) ?_; rw [HW9.out, HQ8.out])
        | (at_builtin; go_must (refine wpList_appendN rfl (.tmp 37) (.tmp 41) 24 rfl 37 _ 34 56 Tryd.underlying24 info37 zeroC37 (by omega) (.slice (some ⟨gw, ow, none⟩) n cw) n (cellsOf l) rfl hab.1 (some ⟨q8, 0, none⟩) 1 1 x.cells rfl (ent_len1 x) (by simp) hab.2.1 x.one HB.out.2 HB.out.1 ?_; intro a6 c6 w6 hs6 hk6 hf6))
        | fail)
      have kk6 : Keep [] w w6 := kk9.trans hk6 (fun b hb => by rcases F2 b hb with h | h; cases h; exact Or.inr h)
      have F6 := F2.trans hf6 kk9.size
      have HQ : TurnQ w (.returned (.slice a6 (n + 1) c6)) w6 := ⟨a6, n + 1, c6, l ++ [x], rfl, by rw [List.length_append, HL.out]; rfl, by rw [cellsOf_append, cellsOf_one]; exact hs6, names_app HNM.out HXN.out, by omega, F6, kk6⟩
      have HQ := Lib.hid HQ
      clear hk6 hf6 hab kk6 F6 hs6 HW9 HQ8 hs2 kk9 k2 F2
      go_wp2_with fail
      go_returns
      exact HQ.out
    · subst hk
      go_upto_region 7 with fail
      have KW : Keep [] w w2 := k2
      by_cases q1 : how = 1
      · subst q1
        obtain ⟨y', hy'⟩ : ∃ y' : Ent, (⟨nm, y.kind, y.id, y.li⟩ : Ent) = y' := ⟨_, rfl⟩
        obtain ⟨p1, p2, p3⟩ := hs2.putC (k := K * 34 + 0) (by rw [cellsOf_len, HL.out]; omega) (.string nm)
        rw [cells_setG HY.out (by omega) (y' := y') (by rw [← hy']; rfl)] at p1
        have hKN : K * 34 = K * N := by rw [HN.out]
        rw [Nat.add_zero, hKN] at p1 p2 p3
        have cK := rangeAt_name (hs2.at37 HY.out)
        rw [hKN] at cK
        clear hKN
        have HQ := Lib.hid (show TurnQ w (.returned (.slice (some ⟨gw, ow, none⟩) n cw)) _ from ⟨_, n, cw, l.set K y', rfl, by rw [List.length_set]; exact HL.out, p1, names_set HNM.out (by rw [← hy']; exact HN0.out), by omega, F2, k2.trans p2 (fun b hb => by simp only [List.mem_singleton] at hb; subst hb; exact Or.inr HGW.out)⟩)
        clear p1 p2 hy' hs2 F2 k2 KW
        go_wp2_with fail
        go_returns
        exact HQ.out
      have d1 : (how == 1) = false := by simpa using q1
      by_cases q2 : how = 2
      · subst q2
        obtain ⟨y', hy'⟩ : ∃ y' : Ent, (⟨y.name, kd, y.id, y.li⟩ : Ent) = y' := ⟨_, rfl⟩
        obtain ⟨p1, p2, p3⟩ := hs2.putC (k := K * 34 + 1) (by rw [cellsOf_len, HL.out]; omega) (.int .i64 kd)
        rw [cells_setG HY.out (by omega) (y' := y') (by rw [← hy']; rfl)] at p1
        have hKN : K * 34 = K * N := by rw [HN.out]
        rw [hKN, ← Nat.add_assoc] at p1 p2 p3
        have cK := rangeAt_kind (hs2.at37 HY.out)
        rw [hKN] at cK
        clear hKN
        have HQ := Lib.hid (show TurnQ w (.returned (.slice (some ⟨gw, ow, none⟩) n cw)) _ from ⟨_, n, cw, l.set K y', rfl, by rw [List.length_set]; exact HL.out, p1, names_set HNM.out (by rw [← hy']; exact HYN.out), by omega, F2, k2.trans p2 (fun b hb => by simp only [List.mem_singleton] at hb; subst hb; exact Or.inr HGW.out)⟩)
        clear p1 p2 hy' hs2 F2 k2 KW
        go_wp2_with fail
        go_returns
        exact HQ.out
      have d2 : (how == 2) = false := by simpa using q2
      by_cases q3 : how = 3
      · subst q3
        have hKN : K * 34 = K * N := by rw [HN.out]
        have rK := hs2.at37 HY.out
        rw [hKN] at rK
        have HY34 := Lib.hid (show y.cells.toArray.size = 34 by simpa using y.len)
        have BX : Blk (w2.alloc (.cells y.cells.toArray 37)) w2.heap.size y.cells.toArray 37 := Blk.new _ _ _
        have kx : Keep [] w2 (w2.alloc (.cells y.cells.toArray 37)) := (Keep.refl [] w2).alloc _
        obtain ⟨W3, hW3⟩ : ∃ W, w2.alloc (.cells y.cells.toArray 37) = W := ⟨_, rfl⟩
        obtain ⟨px, hpx⟩ : ∃ p, w2.heap.size = p := ⟨_, rfl⟩
        have hpg : px ≠ gw := by have := hs2.lt gw (by simp [blks, Value.ownBlock]); omega
        rw [hW3] at BX kx
        rw [hpx] at BX
        have HW3 := Lib.hid hW3
        have HPX := Lib.hid hpx
        have s3 := hs2.keep kx (by simp)
        have r30 := s3.at37 HY0.out
        rw [Nat.zero_mul, Nat.add_zero] at r30
        obtain ⟨tt, s4, k4⟩ := sl_putE (x := y0) s3 HY.out
        rw [hKN] at tt s4 k4
        obtain ⟨W4, hW4⟩ : ∃ W, W3.setCells gw (ow + K * N) y0.cells = W := ⟨_, rfl⟩
        rw [hW4] at s4 k4
        have HW4 := Lib.hid hW4
        have B4 := BX.keep k4 (by simpa using hpg)
        have r4 := rangeAt_of_blk B4
        obtain ⟨ys, hys⟩ : ∃ ys, (l.set K y0)[0]? = some ys := ⟨_, List.getElem?_eq_getElem (by rw [List.length_set, HL.out]; omega)⟩
        obtain ⟨t5, s5, k5⟩ := sl_putE (x := y) s4 hys
        rw [Nat.zero_mul, Nat.add_zero] at t5 s5 k5
        have HQ := Lib.hid (show TurnQ w (.returned (.slice (some ⟨gw, ow, none⟩) n cw)) _ from ⟨_, n, cw, (l.set K y0).set 0 y, rfl, by rw [List.length_set, List.length_set]; exact HL.out, s5, names_set (names_set HNM.out HYN0.out) HYN.out, by omega, F2, ((k2.trans' kx).trans k4 (fun b hb => by simp only [List.mem_singleton] at hb; subst hb; exact Or.inr HGW.out)).trans k5 (fun b hb => by simp only [List.mem_singleton] at hb; subst hb; exact Or.inr HGW.out)⟩)
        have HA0 := Lib.hid (ent_all y0)
        have HA := Lib.hid (ent_all y)
        clear hW3 hW4 hpx hKN s3 s4 s5 k4 k5 kx BX B4 hys hs2 F2 k2 KW
        go_upto_region 15 with (first
          | (refine wpList_load_mid rfl 37 (.tmp 61) rfl gw (ow + K * N) rfl y.cells _ rK Tryd.underlying37 rfl (hi37 y) ?_)
          | (refine wpList_store_last rfl 37 (.tmp 13) (.tmp 62) rfl _ _ y.cells.toArray rfl rfl rfl (by rw [HY34.out]; rfl) (by rw [HY34.out]; rfl) HA.out ?_)
          | fail)
        rw [HW3.out, HPX.out]
        go_upto_region 16 with (first
          | (refine wpList_load_mid rfl 37 (.tmp 66) rfl gw ow rfl y0.cells _ r30 Tryd.underlying37 rfl (hi37 y0) ?_)
          | (refine wpList_store_mid rfl 37 (.tmp 68) (.tmp 67) rfl gw (ow + K * N) y0.cells.toArray rfl rfl tt (by simpa using hi37 y0) HA0.out ?_)
          | fail)
        rw [HW4.out]
        go_wp2_with (first
          | (refine wpList_load_mid rfl 37 (.tmp 13) rfl px 0 rfl y.cells _ r4 Tryd.underlying37 rfl (hi37 y) ?_)
          | (refine wpList_store_mid rfl 37 (.tmp 71) (.tmp 70) rfl gw ow y.cells.toArray rfl rfl t5 (by simpa using hi37 y) HA.out ?_)
          | fail)
        go_returns
        exact HQ.out
      have d3 : (how == 3) = false := by simpa using q3
      by_cases q4 : how = 4
      · subst q4
        obtain ⟨x, hx⟩ : ∃ x, y = x := ⟨_, rfl⟩
        have rK := hs2.at37 HY.out
        rw [hx, HN.out] at rK
        have HXN := HYN
        rw [hx] at HXN
        have HBU : Hid True := Lib.hid trivial
        clear hx
        obtain ⟨q8, hq8⟩ : ∃ q, w2.heap.size = q := ⟨_, rfl⟩
        obtain ⟨w9, hw9⟩ : ∃ W, w2.alloc (.cells x.cells.toArray 37) = W := ⟨_, rfl⟩
        have hab := after_build (x := x) hs2
        rw [hw9, hq8] at hab
        have HW9 := Lib.hid hw9
        have HQ8 := Lib.hid hq8
        have kk9 := k2.trans' hab.2.2
        clear hw9 hq8
        go_upto_region 19 with (first
          | (refine wpList_load_mid rfl 37 (.tmp 77) rfl gw (ow + K * N) rfl x.cells _ rK Tryd.underlying37 rfl (hi37 x) ?_)
          | (refine wpList_build1 rfl 24 37 (.tmp 78) rfl x.cells.toArray rfl _ 34 56 Tryd.underlying24 info37 (by simp [x.len]) (by omega) (by omega) ?_; rw [HW9.out, HQ8.out])
          | (at_builtin; go_must (refine wpList_appendN rfl (.tmp 74) (.tmp 79) 24 rfl 37 _ 34 56 Tryd.underlying24 info37 zeroC37 (by omega) (.slice (some ⟨gw, ow, none⟩) n cw) n (cellsOf l) rfl hab.1 (some ⟨q8, 0, none⟩) 1 1 x.cells rfl (ent_len1 x) (by simp) hab.2.1 x.one HB.out.2 HB.out.1 ?_; intro a6 c6 w6 hs6 hk6 hf6))
          | fail)
        have kk6 : Keep [] w w6 := kk9.trans hk6 (fun b hb => by rcases F2 b hb with h | h; cases h; exact Or.inr h)
        have F6 := F2.trans hf6 kk9.size
        have HQ : TurnQ w (.returned (.slice a6 (n + 1) c6)) w6 := ⟨a6, n + 1, c6, l ++ [x], rfl, by rw [List.length_append, HL.out]; rfl, by rw [cellsOf_append, cellsOf_one]; exact hs6, names_app HNM.out HXN.out, by omega, F6, kk6⟩
        have HQ := Lib.hid HQ
        clear hk6 hf6 hab kk6 F6 hs6 HW9 HQ8 hs2 kk9 k2 F2
        go_wp2_with fail
        go_returns
        exact HQ.out
      have d4 : (how == 4) = false := by simpa using q4
      obtain ⟨x, hx⟩ : ∃ x, ent0 nm kd = x := ⟨_, rfl⟩
      have HBU := Lib.hid (show Tryd.prog.built 37 [(0, .string nm), (1, .int .i64 kd)] = some x.cells.toArray by rw [← hx]; exact built_ent2 nm kd)
      have HXN := Lib.hid (show x.name.size ≤ 9223372036854775807 by rw [← hx]; exact HN0.out)
      clear hx
      obtain ⟨q8, hq8⟩ : ∃ q, w2.heap.size = q := ⟨_, rfl⟩
      obtain ⟨w9, hw9⟩ : ∃ W, w2.alloc (.cells x.cells.toArray 37) = W := ⟨_, rfl⟩
      have hab := after_build (x := x) hs2
      rw [hw9, hq8] at hab
      have HW9 := Lib.hid hw9
      have HQ8 := Lib.hid hq8
      have kk9 := k2.trans' hab.2.2
      clear hw9 hq8
      go_upto_region 19 with (first
        | (refine wpList_built2 rfl 37 0 1 (.tmp 38) (.tmp 39) rfl (.string nm) (.int .i64 kd) rfl rfl x.cells.toArray HBU.out ?_)
        | (refine wpList_build1 rfl 24 37 (.tmp 40) rfl x.cells.toArray rfl _ 34 56 Tryd.underlying24 info37 (by simp [x.len]) (by omega) (by omega) ?_; rw [HW9.out, HQ8.out])
        | (at_builtin; go_must (refine wpList_appendN rfl (.tmp 37) (.tmp 41) 24 rfl 37 _ 34 56 Tryd.underlying24 info37 zeroC37 (by omega) (.slice (some ⟨gw, ow, none⟩) n cw) n (cellsOf l) rfl hab.1 (some ⟨q8, 0, none⟩) 1 1 x.cells rfl (ent_len1 x) (by simp) hab.2.1 x.one HB.out.2 HB.out.1 ?_; intro a6 c6 w6 hs6 hk6 hf6))
        | fail)
      have kk6 : Keep [] w w6 := kk9.trans hk6 (fun b hb => by rcases F2 b hb with h | h; cases h; exact Or.inr h)
      have F6 := F2.trans hf6 kk9.size
      have HQ : TurnQ w (.returned (.slice a6 (n + 1) c6)) w6 := ⟨a6, n + 1, c6, l ++ [x], rfl, by rw [List.length_append, HL.out]; rfl, by rw [cellsOf_append, cellsOf_one]; exact hs6, names_app HNM.out HXN.out, by omega, F6, kk6⟩
      have HQ := Lib.hid HQ
      clear hk6 hf6 hab kk6 F6 hs6 HW9 HQ8 hs2 kk9 k2 F2
      go_wp2_with fail
      go_returns
      exact HQ.out
end Go.Proofs.YtgeihjpifbkpkaaDoor

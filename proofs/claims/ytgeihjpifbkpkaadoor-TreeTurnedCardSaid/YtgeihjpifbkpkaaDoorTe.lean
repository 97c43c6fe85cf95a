/- TreeEncodes: its walk. -/
import Derived.Test.YtgeihjpifbkpkaaDoorCe
set_option linter.unusedVariables false
set_option linter.unusedSimpArgs false
namespace Go.Proofs.YtgeihjpifbkpkaaDoor
open Go.RowKit

/-- Cells written within a slice. -/
theorem Sl.splice {w : World} {e : TypeId} {sz g off n c o : Nat} {vs P M S news : List Value} (h : Sl w e sz (.slice (some ⟨g, off, none⟩) n c) n vs) (hv : vs = P ++ (M ++ S)) (ho : off + P.length = o) (hl : news.length = M.length) (h1 : ∀ v ∈ news, v.oneCell' = true) :
    w.there g o news.length ∧ Sl (w.setCells g o news) e sz (.slice (some ⟨g, off, none⟩) n c) n (P ++ (news ++ S)) ∧ Keep [g] w (w.setCells g o news) := by
  have hlen := h.1
  rcases h.2 with ⟨h1, h2⟩ | ⟨g', cap, pre, post, e1, hb, r⟩
  · cases h1
  · simp only [Value.slice.injEq, Option.some.injEq, Addr.mk.injEq, and_true, true_and] at e1
    obtain ⟨⟨rfl, rfl⟩, rfl⟩ := e1
    obtain ⟨ht, hB, hk⟩ := setCells_row (vs := news) (P := pre ++ P) (M := M) (S := S ++ post) (o := o) hb (by rw [hv]; simp) (by rw [List.length_append]; exact ho) hl h1
    have e2 : (pre ++ P) ++ (news ++ (S ++ post)) = pre ++ ((P ++ (news ++ S)) ++ post) := by simp
    have e3 : (P ++ (news ++ S)).length = vs.length := by rw [hv]; simp [hl]
    rw [e2] at hB
    exact ⟨ht, ⟨by rw [e3]; exact hlen, Or.inr ⟨g, c, pre, post, rfl, hB, by rw [e3]; exact r⟩⟩, hk⟩
theorem Sl.putC {w : World} {e : TypeId} {sz g off n c k : Nat} {vs : List Value} (h : Sl w e sz (.slice (some ⟨g, off, none⟩) n c) n vs) (hk : k < vs.length) (v : Value) :
    Sl (w.setCell ⟨g, off + k, none⟩ v) e sz (.slice (some ⟨g, off, none⟩) n c) n (vs.set k v) ∧ Keep [g] w (w.setCell ⟨g, off + k, none⟩ v) ∧ w.frozen? ⟨g, off + k, none⟩ = false := by
  have hl := h.1
  rcases h.2 with ⟨h1, h2⟩ | ⟨g', cap, pre, post, h1, hb, r⟩
  · cases h1
  · simp only [Value.slice.injEq, Option.some.injEq, Addr.mk.injEq, and_true, true_and] at h1
    obtain ⟨⟨rfl, rfl⟩, rfl⟩ := h1
    have hs := hb.set (pre.length + k) v
    have e : (pre ++ (vs ++ post)).toArray.setIfInBounds (pre.length + k) v = (pre ++ (vs.set k v ++ post)).toArray := by
      apply Array.ext'
      rw [Array.toList_setIfInBounds, List.toList_toArray, List.set_append_right _ _ (by omega), Nat.add_sub_cancel_left, List.set_append_left _ _ (by omega)]
    rw [e] at hs
    exact ⟨⟨by simpa using hl, Or.inr ⟨g, c, pre, post, rfl, hs, by simpa using r⟩⟩, Keep.set_one w ⟨g, pre.length + k, none⟩ v, hb.free⟩
/-- An entry with another id. -/
def withId (y : Ent) (xs : List UInt8) (h : xs.length = 32) : Ent := ⟨y.name, y.kind, xs, h⟩
def turnId (y : Ent) : List UInt8 := y.id.set 31 (turnB (y.id.getD 31 0))
theorem turnId_len (y : Ent) : (turnId y).length = 32 := by simp [turnId, y.li]
def turnE (y : Ent) : Ent := withId y (turnId y) (turnId_len y)
/-- A list whose entry at m has another id: its cells. -/
theorem id_parts {l : List Ent} {m : Nat} {y : Ent} (h : l[m]? = some y) : cellsOf l = (cellsOf (l.take m) ++ [.string y.name, .int .i64 y.kind]) ++ (bs y.id ++ cellsOf (l.drop (m + 1))) := by
  rw [cells_split h]; simp [Ent.cells]
theorem id_parts' {l : List Ent} {m : Nat} {y : Ent} (h : l[m]? = some y) (xs : List UInt8) (hx : xs.length = 32) : (cellsOf (l.take m) ++ [.string y.name, .int .i64 y.kind]) ++ (bs xs ++ cellsOf (l.drop (m + 1))) = cellsOf (l.set m (withId y xs hx)) := by
  rw [cellsOf_set h]; simp [Ent.cells, withId]
theorem id_len {l : List Ent} {m : Nat} {y : Ent} (h : l[m]? = some y) : (cellsOf (l.take m) ++ [Value.string y.name, Value.int .i64 y.kind]).length = m * 34 + 2 := by
  have := (List.getElem?_eq_some_iff.1 h).1
  rw [List.length_append, cellsOf_len, List.length_take, Nat.min_eq_left (by omega)]; rfl
theorem id_set {l : List Ent} {m : Nat} {y : Ent} (h : l[m]? = some y) : (cellsOf l).set (m * 34 + 33) (B8 (turnB (y.id.getD 31 0))) = cellsOf (l.set m (turnE y)) := by
  rw [turnE, ← id_parts' h (turnId y) (turnId_len y), id_parts h, List.set_append_right _ _ (by rw [id_len h]; omega), id_len h]
  congr 1
  rw [List.set_append_left _ _ (by rw [bs_length, y.li]; omega), show m * 34 + 33 - (m * 34 + 2) = 31 by omega, turnId, bs, bs, List.map_set]
theorem set_names {l : List Ent} {m : Nat} {y : Ent} (h : l[m]? = some y) (hn : ∀ x ∈ l, x.name.size ≤ 9223372036854775807) : ∀ x ∈ l.set m (turnE y), x.name.size ≤ 9223372036854775807 := by
  intro x hx
  rcases List.mem_or_eq_of_mem_set hx with h1 | h1
  · exact hn x h1
  · subst h1; exact hn y (List.mem_of_getElem? h)

set_option maxHeartbeats 2000000 in
set_option maxRecDepth 100000 in
theorem treeEncodes_walk (a : Option Addr) (n c : Nat) (l : List Ent) (w : World) (hx : EsIn w a n c l) (hT : Tabs w) :
    Calls Tryd.prog 4 #[.slice a n c] w fun e w' => e = .returned (.bool true) ∧ Keep [] w w' := by
  have HL := Lib.hid hx.hlen
  have hsh := hx.short
  have hB1 : n * 56 ≤ 140737488355328 ∧ n ≤ maxLen := by unfold maxLen; omega
  have HB1 := Lib.hid hB1
  have HSH := Lib.hid hsh
  have hn62 : n ≤ 4611686018427387904 := by omega
  have HNM := Lib.hid hx.names
  have hnil := hx.hnil
  have hrd := hx.rd
  clear hB1 hsh
  go_enter Tryd.func4, Tryd.ntmps4
  go_upto_region 3 with (first
    | (go_at_call 10; refine (known_any _ hT).mono ?_; rintro e w1 ⟨rfl, k1⟩)
    | fail)
  have r1 := hrd.keep k1 (by simp)
  go_upto_region 4 with (first
    | (at_builtin; go_must (refine wpList_app0 w1 rfl (.tmp 12) (.tmp 13) 24 rfl 37 _ 34 56 Tryd.underlying24 info37 zeroC37 (by omega) rfl a n c (cellsOf l) rfl (by rw [cellsOf_len, HL.out]) hnil r1 (cellsOf_all l) HB1.out.2 HB1.out.1 ?_; intro aw cw w2 hs2 k2 F2))
    | fail)
  have kk2 := k1.trans' k2
  have FW : Fr w [] (blks (.slice aw n cw)) := F2.le k1.size
  have l2 := hs2.lt
  have E2 : EsIn w2 aw n cw l := by
    obtain ⟨a', c', e, ea, hrd, hle, hm, hnil⟩ := hs2.form
    obtain ⟨rfl, rfl⟩ : aw = a' ∧ cw = c' := by simpa using e
    exact ⟨HL.out, hrd, hle, hnil, by simpa [maxLen] using hm, HSH.out, HNM.out⟩
  go_upto_region 5 with (first
    | (go_at_call 13; refine (copied_any aw n cw l _ E2).mono ?_; rintro e w3 ⟨ab, cb, rfl, hB, F3, k3⟩)
    | fail)
  have kk3 := kk2.trans' k3
  have hs3 := hs2.keep k3 (by simp)
  clear hs2 E2 r1 hx hrd hnil F2
  go_upto_region 6 with fail
  go_loopw [5] (fun v5 wr => ∃ (i : Nat) (xs : List Ent), i ≤ 2 ∧ v5 = .int .i64 (i : Nat) ∧ Hid (∀ x ∈ xs, x.name.size ≤ 9223372036854775807) ∧ Sl wr 37 34 (.slice aw n cw) n (cellsOf xs) ∧ RoomE wr ab n cb xs ∧ Keep [] w wr) (fun v5 _ => 2 - (intOf v5).toNat)
  case atStart => exact ⟨0, l, by omega, rfl, HNM, hs3, hB, kk3⟩
  case round =>
    clear hs3 hB kk3
    obtain ⟨i, xs, hi, rfl, HX, sW, rB, kk⟩ := hrel
    by_cases hlt : i < 2
    · have i1 : (i : Int) < 2 := by omega
      have hxl := rB.1
      obtain ⟨X, hX⟩ : ∃ l, encX xs = l := ⟨_, rfl⟩
      obtain ⟨z, hz⟩ : ∃ z, encC xs = z := ⟨_, rfl⟩
      have EW := Lib.hid (fun W s => by
        obtain ⟨a', c', e, ea, hrd, hle, hm, hnil⟩ := Sl.form s
        obtain ⟨rfl, rfl⟩ : aw = a' ∧ cw = c' := by simpa using e
        exact ⟨hxl, hrd, hle, hnil, by simpa [maxLen] using hm, HSH.out, HX.out⟩ : ∀ W, Sl W 37 34 (.slice aw n cw) n (cellsOf xs) → EsIn W aw n cw xs)
      have E1 := Lib.hid (fun W h t => by have := encode_any ab n cb xs W (RoomE.esIn h HX.out HSH.out) t; rwa [hX, hz] at this : ∀ W, RoomE W ab n cb xs → Tabs W → Calls Tryd.prog 14 #[.slice ab n cb] W (GiveE W X z))
      have E2 := Lib.hid (fun W h => by have := refEncode_any aw n cw xs W h; rwa [hX, hz] at this : ∀ W, EsIn W aw n cw xs → Calls Tryd.prog 15 #[.slice aw n cw] W (GiveE W X z))
      have SM := Lib.hid (fun W a n' c' b m d' h1 r1 h2 r2 hs => by have := same_any a b n' c' m d' X X W h1 r1 h2 r2 hs; rwa [decide_eq_true rfl] at this : ∀ W a n' c' b m d', X.length = n' → Rd W a (bs X) → X.length = m → Rd W b (bs X) → n' ≤ 140737488355328 → Calls Tryd.prog 16 #[.slice a n' c', .slice b m d'] W fun e w' => e = .returned (.bool true) ∧ Keep [] W w')
      have WH := Lib.hid (fun W h g => by have := whole_any ab aw n cb n cw xs xs W h HX.out HSH.out g; rwa [decide_eq_true rfl] at this : ∀ W, RoomE W ab n cb xs → EsIn W aw n cw xs → Calls Tryd.prog 17 #[.slice ab n cb, .slice aw n cw] W fun e w' => e = .returned (.bool true) ∧ Keep [] W w')
      have HXL := Lib.hid hxl
      clear hX hz hxl
      go_upto_region 9 with (first
        | (go_at_call 14; refine (E1.out _ rB (hT.keep kk)).mono ?_; rintro e w4 ⟨a5, n5, c5, rfl, l5, s5, f5, m5, k4⟩)
        | fail)
      have sW4 := EW.out _ (sW.keep k4 (by simp))
      go_upto_region 10 with (first
        | (go_at_call 15; refine (E2.out _ sW4).mono ?_; rintro e w5 ⟨a6, n6, c6, rfl, l6, s6, f6, m6, k5⟩)
        | fail)
      have r5 := s5.rd.keep k5 (fun _ => by simp)
      have r6 := s6.rd
      have k45 := k4.trans' k5
      go_upto_region 12 with (first
        | (go_at_call 16; refine (SM.out _ _ _ _ _ _ _ l5 r5 l6 r6 (by omega)).mono ?_; rintro e w6 ⟨rfl, k6⟩; have k46 := k45.trans' k6; have rB6 := rB.keep k46 (by simp); have rW6 := EW.out _ (sW.keep k46 (by simp)))
        | (go_at_call 17; refine (WH.out _ rB6 rW6).mono ?_; rintro e w7 ⟨rfl, k7⟩)
        | fail)
      have k47 := k46.trans' k7
      have kk7 := kk.trans' k47
      have sW7 := sW.keep k47 (by simp)
      have rB7 := rB.keep k47 (by simp)
      clear s5 s6 r5 r6 rB6 rW6 sW4 f5 f6 sW rB E1 E2 EW WH SM l5 l6 m5 m6
      by_cases h0 : n = 0
      · subst h0
        go_wp2_with fail
        exact ⟨⟨i + 1, xs, by omega, by go_num, HX, sW7, rB7, kk7⟩, by simp [intOf]; omega⟩
      · obtain ⟨m, rfl⟩ : ∃ m, n = m + 1 := ⟨n - 1, by omega⟩
        obtain ⟨gw, ow, rfl, -⟩ := sW7.rd.at (k := 0) (by rw [cellsOf_len, HXL.out]; omega)
        obtain ⟨gb, ob, rfl⟩ := rB7.addr
        have hgw : gw < w2.heap.size := l2 gw (by simp [blks, Value.ownBlock])
        have hgb := fr_old F3 gb (by simp [blks, Value.ownBlock])
        have hgw0 := fr_old FW gw (by simp [blks, Value.ownBlock])
        have hgb0 : w.heap.size ≤ gb := Nat.le_trans kk2.size hgb
        obtain ⟨y, hyy⟩ : ∃ y, xs[m]? = some y := ⟨_, List.getElem?_eq_getElem (by rw [HXL.out]; omega)⟩
        obtain ⟨zb, hzb⟩ : ∃ z, y.id.getD 31 0 = z := ⟨_, rfl⟩
        have hcell : (cellsOf xs)[m * 34 + 33]? = some (.int .u8 (zb.toNat : Nat)) := by
          rw [cellsOf_get hyy (by omega)]
          show (Value.string y.name :: .int .i64 y.kind :: bs y.id)[33]? = _
          rw [show (33 : Nat) = 31 + 1 + 1 from rfl, List.getElem?_cons_succ, List.getElem?_cons_succ, bs, List.getElem?_map, ← hzb, List.getD_eq_getElem?_getD, List.getElem?_eq_getElem (by rw [y.li]; omega)]; rfl
        have c13 : w7.cell? ⟨gw, ow + m * 34 + 2 + 31, none⟩ = some (.int .u8 (zb.toNat : Nat)) := by
          rcases sW7.rd with e | ⟨b', o', e, hc⟩
          · have := congrArg List.length e
            rw [cellsOf_len, HXL.out] at this; simp at this
          · obtain ⟨rfl, rfl⟩ : gw = b' ∧ ow = o' := by simpa [sAddr] using e
            rw [show ow + m * 34 + 2 + 31 = ow + (m * 34 + 33) by omega]
            exact hc _ _ hcell
        obtain ⟨p1, p2, p3⟩ := sW7.putC (k := m * 34 + 33) (by rw [cellsOf_len, HXL.out]; omega) (B8 (turnB (y.id.getD 31 0)))
        rw [id_set hyy, hzb] at p1
        rw [hzb] at p2
        have htb := turn_bits zb
        have HTB := Lib.hid (show B8 (turnB zb) = .int .u8 (bits .xor .u8 (zb.toNat : Int) 1) by rw [htb])
        rw [HTB.out] at p1 p2
        rw [show ow + (m * 34 + 33) = ow + m * 34 + 2 + 31 by omega] at p1 p2 p3
        obtain ⟨Y, hY⟩ : ∃ y, bits .xor .u8 (zb.toNat : Int) 1 = y := ⟨_, rfl⟩
        rw [hY] at p1 p2
        have j1 : (0 : Int) < ((m + 1 : Nat) : Int) := by omega
        have j2 : IntKind.i64.wrap (((m + 1 : Nat) : Int) - 1) = (m : Nat) := by rw [IntWalk.i64_in _ (by omega)]; omega
        have j3 : (m : Int) < ((m + 1 : Nat) : Int) := by omega
        have j4 : (m : Int) + 1 - 1 = m := by omega
        have j5 : (m : Int) < (m : Int) + 1 := by omega
        have j6 : (0 : Int) < (m : Int) + 1 := by omega
        have j7 : (0 : Int) ≤ m := by omega
        have HP1 := Lib.hid p1
        have HP2 := Lib.hid p2
        obtain ⟨X31, hX31⟩ : ∃ X : Nat, zb.toNat = X := ⟨_, rfl⟩
        rw [hX31] at c13 hY
        clear hcell htb hX31 p1 p2 HTB
        go_upto_region 13 with fail
        go_region
        obtain ⟨W8, hW8⟩ : ∃ W, (w7.setCell ⟨gw, ow + m * 34 + 2 + 31, none⟩ (.int .u8 Y)).drew = W := ⟨_, rfl⟩
        have s8 : Sl W8 37 34 (.slice (some ⟨gw, ow, none⟩) (m + 1) cw) (m + 1) (cellsOf (xs.set m (turnE y))) := by rw [← hW8]; exact HP1.out.keep ((Keep.refl [] _).drew) (by simp)
        have k8 : Keep [gw] w7 W8 := by rw [← hW8]; exact HP2.out.drew
        rw [hW8]
        have rB8 := rB7.keep k8 (fun b hb => by simp [blks, Value.ownBlock] at hb; subst hb; simp only [List.mem_singleton]; omega)
        have hyt : (xs.set m (turnE y))[m]? = some (turnE y) := List.getElem?_set_self (by rw [HXL.out]; omega)
        have rI : W8.rangeAt gw (ow + m * 34 + 2) (bs (turnId y)) := by
          rcases s8.rd with e | ⟨b', o', e, hc⟩
          · have := congrArg List.length e
            rw [cellsOf_len, List.length_set, HXL.out] at this; simp at this
          · obtain ⟨rfl, rfl⟩ : gw = b' ∧ ow = o' := by simpa [sAddr] using e
            intro j v hv
            have hj := (List.getElem?_eq_some_iff.1 hv).1
            rw [bs_length, turnId_len] at hj
            rw [show ow + m * 34 + 2 + j = ow + (m * 34 + (2 + j)) by omega]
            refine hc _ v ((cellsOf_get hyt (by omega)).trans ?_)
            show (Value.string y.name :: .int .i64 y.kind :: bs (turnId y))[2 + j]? = _
            rw [show 2 + j = j + 1 + 1 by omega]; exact hv
        have hym : (xs ++ marksE 40)[m]? = some y := by rw [List.getElem?_append_left (by rw [HXL.out]; omega)]; exact hyy
        obtain ⟨tt, q1, q2⟩ := rB8.2.2.splice (o := ob + m * 34 + 2) (news := bs (turnId y)) (id_parts hym) (by rw [id_len hym]; omega) (by rw [bs_length, bs_length, turnId_len, y.li]) (bs_one _)
        rw [id_parts' hym _ (turnId_len y), List.set_append_left _ _ (by rw [HXL.out]; omega)] at q1
        have q1 : RoomE (W8.setCells gb (ob + m * 34 + 2) (bs (turnId y))) (some ⟨gb, ob, none⟩) (m + 1) cb (xs.set m (turnE y)) := ⟨by rw [List.length_set]; exact HXL.out, rB8.2.1, q1⟩
        have sW9 := s8.keep q2 (fun b hb => by simp [blks, Value.ownBlock] at hb; subst hb; simp only [List.mem_singleton]; omega)
        have kk9 := (kk7.trans k8 (fun b hb => by simp only [List.mem_singleton] at hb; subst hb; exact Or.inr hgw0)).trans q2 (fun b hb => by simp only [List.mem_singleton] at hb; subst hb; exact Or.inr hgb0)
        have HF := Lib.hid (And.intro sW9 (And.intro q1 kk9))
        have HSN := Lib.hid (set_names hyy HX.out)
        have hi5 := hi35 (turnId_len y)
        have HA := Lib.hid (all_oneCell_toArray (bs_one (turnId y)))
        obtain ⟨idn, hidn⟩ : ∃ l, bs (turnId y) = l := ⟨_, rfl⟩
        rw [hidn] at rI tt HF hi5 HA
        clear hyt hym sW9 q1 q2 kk9 s8 rB8 hidn hW8 sW7 rB7 HP1 HP2 p3 c13 hY hyy hzb k8
        go_wp2_with (first
          | (refine wpList_load_mid rfl 35 (.tmp 74) rfl gw (ow + m * 34 + 2) rfl idn _ rI Tryd.underlying35 rfl hi5 ?_)
          | (refine wpList_store_mid rfl 35 (.tmp 77) (.tmp 75) rfl gb (ob + m * 34 + 2) idn.toArray rfl rfl tt (by simpa using hi5) HA.out ?_)
          | fail)
        exact ⟨⟨i + 1, xs.set m (turnE y), by omega, by go_num, HSN, HF.out.1, HF.out.2.1, HF.out.2.2⟩, by simp [intOf]; omega⟩
    · obtain rfl : i = 2 := by omega
      go_wp2_with fail
      go_returns
      exact ⟨rfl, kk⟩
end Go.Proofs.YtgeihjpifbkpkaaDoor

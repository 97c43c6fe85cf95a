/- Parse of the document. -/
import Derived.Test.YtgeihjpifbkpkaaDoorRp
import Derived.Test.YtgeihjpifbkpkaaDoorPa
set_option linter.unusedVariables false
set_option linter.unusedSimpArgs false
namespace Go.Proofs.YtgeihjpifbkpkaaDoor
open Go.RowKit

theorem rd_at {w : World} {b off : Nat} {d : List UInt8} (h : Rd w (some ⟨b, off, none⟩) (bs d)) {i : Nat} (hi : i < d.length) : w.cell? ⟨b, off + i, none⟩ = some (.int .u8 (nAt d i : Nat)) := by
  obtain ⟨b', off', e, hc⟩ := h.byte hi
  obtain ⟨rfl, rfl⟩ : b = b' ∧ off = off' := by simpa using e
  rw [hc]
  simp [nAt, List.getD_eq_getElem?_getD, List.getElem?_eq_getElem hi]
theorem nAt_lt (d : List UInt8) (p : Nat) : nAt d p < 256 := (d.getD p 0).toNat_lt
theorem par_ref_no {d : List UInt8} (h : refO d = none) : parT d = [] ∧ parC d = 70 := par_no (by rw [par_ref]; exact h)
theorem rd_part {w : World} {b off p m : Nat} {d : List UInt8} (h : Rd w (some ⟨b, off, none⟩) (bs d)) (hm : p + m ≤ d.length) : Rd w (some ⟨b, off + p, none⟩) (bs ((d.drop p).take m)) := by
  refine Or.inr ⟨b, off + p, rfl, fun k v hv => ?_⟩
  have hk := (List.getElem?_eq_some_iff.1 hv).1
  rw [bs_length, List.length_take, List.length_drop] at hk
  rw [Nat.add_assoc, rd_at h (by omega)]
  rw [bs, List.getElem?_map, List.getElem?_take, if_pos (by omega), List.getElem?_drop] at hv
  rw [List.getElem?_eq_getElem (by omega)] at hv
  simp only [Option.map_some, Option.some.injEq] at hv
  rw [← hv]
  simp [nAt, List.getD_eq_getElem?_getD, List.getElem?_eq_getElem (show p + k < d.length by omega)]
/-- An entry of which the first j bytes of the id are written. -/
def entJ (d : List UInt8) (nm : ByteArray) (kd o j : Nat) : Ent := entP nm (kd : Nat) ((d.drop o).take j)
theorem entJ_zero (d : List UInt8) (nm : ByteArray) (kd o : Nat) : entJ d nm kd o 0 = ent0 nm kd := by
  unfold entJ entP ent0; simp [pad32_nil]
theorem entJ_set {d : List UInt8} {nm : ByteArray} {kd o j : Nat} (hj : j < 32) (hl : o + j < d.length) : (entJ d nm kd o j).cells.toArray.setIfInBounds (2 + j) (.int .u8 (nAt d (o + j) : Nat)) = (entJ d nm kd o (j + 1)).cells.toArray := by
  apply Array.ext'
  rw [Array.toList_setIfInBounds]
  show (Value.string nm :: .int .i64 kd :: bs (pad32 ((d.drop o).take j))).set (2 + j) _ = Value.string nm :: .int .i64 kd :: bs (pad32 ((d.drop o).take (j + 1)))
  rw [show 2 + j = (j + 1) + 1 by omega, List.set_cons_succ, List.set_cons_succ]
  congr 2
  have l1 : ((d.drop o).take j).length = j := by rw [List.length_take, List.length_drop]; omega
  have e1 : (d.drop o).take (j + 1) = (d.drop o).take j ++ [d.getD (o + j) 0] := by
    rw [List.take_add_one, List.getElem?_drop, List.getElem?_eq_getElem hl, List.getD_eq_getElem?_getD, List.getElem?_eq_getElem hl]; rfl
  rw [pad32_eq (by omega), pad32_eq (by rw [e1, List.length_append, l1]; simp; omega), e1, l1, List.length_append, l1, bs_append, bs_append, bs_append, List.set_append_right _ _ (by rw [bs_length, l1]; omega), bs_length, l1, Nat.sub_self]
  obtain ⟨k, hk⟩ : ∃ k, 32 - j = k + 1 := ⟨31 - j, by omega⟩
  rw [hk, List.replicate_succ]
  simp only [List.length_singleton]
  rw [show 32 - (j + 1) = k by omega]
  simp [bs, nAt]
theorem ent_cell {x : Ent} {j : Nat} (hj : j < 32) : ∃ v, x.cells.toArray[2 + j]? = some v ∧ v.oneCell' = true := by
  have h : 2 + j < x.cells.length := by rw [Ent.len]; omega
  exact ⟨_, by rw [List.getElem?_toArray]; exact List.getElem?_eq_getElem h, Ent.one _ _ (List.getElem_mem h)⟩
theorem built_ent2 (s : ByteArray) (k : Int) : Tryd.prog.built 37 [(0, .string s), (1, .int .i64 k)] = some (ent0 s k).cells.toArray := by kernel_rfl
section
variable {ops : Array Oper} {o : Oper} {a : Act} {w : World} {K : Act → World → Prop} {Q : Exit → Act → World → Prop} {E : Prop}
theorem step_strR (hgd : o.guard = none) (x : Operand) (ho : o.op = .convert 26 9 x) (b off n c : Nat) (xs : List UInt8) (hx : a.eval x = .slice (some ⟨b, off, none⟩) n c) (hl : xs.length = n) (hrd : Rd w (some ⟨b, off, none⟩) (bs xs))
    (h : K (a.put o.dst (.string ⟨xs.toArray⟩)) w) : if Region.wanted o (yielded ops a.tmps) = true then Oper.wp Tryd.prog o a w K Q else E := by
  have hw : Region.wanted o (yielded ops a.tmps) = true := by simp [Region.wanted, hgd]
  rw [if_pos hw]
  subst hl
  have hr : (convert 26 9 (.slice (some ⟨b, off, none⟩) xs.length c)).run Tryd.prog w = .ok (.string ⟨xs.toArray⟩) w := by
    refine run_convert_bytes_back (P := Tryd.prog) w 26 9 5 ⟨b, off, none⟩ c xs Tryd.underlying26 Tryd.underlying5 Tryd.underlying9 (fun j hj => ?_)
    rcases hrd with e | ⟨b', o', e, hc⟩
    · have : xs = [] := by simpa [bs] using e
      rw [this] at hj; simp at hj
    · obtain ⟨rfl, rfl⟩ : b = b' ∧ off = o' := by simpa using e
      rw [add_off]; exact hc j _ (by simp [bs, List.getElem?_eq_getElem hj])
  unfold Oper.wp execOp
  simp only [ho, hx, Sem.run_bind, Sem.run_pure, hr, Result.andThen_ok]
  exact h
theorem step_buildE2 (hgd : o.guard = none) (x y : Operand) (ho : o.op = .build 37 #[(0, y), (1, x)]) (k : Int) (s : ByteArray) (hx : a.eval x = .int .i64 k) (hy : a.eval y = .string s)
    (h : K (a.put o.dst (.agg (ent0 s k).cells.toArray)) w) : if Region.wanted o (yielded ops a.tmps) = true then Oper.wp Tryd.prog o a w K Q else E := by
  have hw : Region.wanted o (yielded ops a.tmps) = true := by simp [Region.wanted, hgd]
  rw [if_pos hw]
  have e : ((#[(0, y), (1, x)] : Array (Nat × Operand)).map fun (i, x) => (i, a.eval x)).toList = [(0, .string s), (1, .int .i64 k)] := by simp [hx, hy]
  refine wp_build 37 #[(0, y), (1, x)] ho (by rw [e, built_ent2]; rfl) ?_
  rw [e, built_ent2]; exact h
end
theorem rowsTo_names {d : List UInt8} : ∀ {k : Nat} {l : List Ent} {p : Nat}, rowsTo d k = some (l, p) → ∀ x ∈ l, x.name.size ≤ 9223372036854775807 := by
  intro k
  induction k with
  | zero => intro l p h; simp only [rowsTo, Option.some.injEq, Prod.mk.injEq] at h; rw [← h.1]; simp
  | succ k ih =>
    intro l p h
    rw [rowsTo] at h
    split at h
    · cases h
    · rename_i l' p' h1
      split at h
      · cases h
      · rename_i x q h2
        simp only [Option.some.injEq, Prod.mk.injEq] at h
        rw [← h.1]
        intro y hy
        rcases List.mem_append.1 hy with hy | hy
        · exact ih h1 y hy
        · obtain rfl : y = x := by simpa using hy
          unfold rowAt at h2
          split at h2
          · cases h2
          · split at h2
            · cases h2
            · rename_i h3 h4
              simp only [Option.some.injEq, Prod.mk.injEq] at h2
              rw [← h2.1]
              have hs : (entAt d p').name.size = ((d.drop (p' + 2)).take (nAt d (p' + 1))).length := by
                show Array.size (List.toArray _) = _
                rw [List.size_toArray]
              rw [hs, List.length_take]; omega
theorem esIn_of {w : World} {ao : Option Addr} {k co : Nat} {l : List Ent} (s : Sl w 37 34 (.slice ao k co) k (cellsOf l)) (hl : l.length = k) (hk : k ≤ 1000) (hn : ∀ x ∈ l, x.name.size ≤ 9223372036854775807) : EsIn w ao k co l := by
  obtain ⟨a', c', e, ea, hrd, hle, hm, hnil⟩ := s.form
  obtain ⟨rfl, rfl⟩ : ao = a' ∧ co = c' := by simpa using e
  exact ⟨hl, hrd, hle, hnil, by simpa [maxLen] using hm, by omega, hn⟩
/-- What holds ahead of the k-th entry. -/
def RfI (w : World) (d : List UInt8) (m : Nat) (v4 v5 v6 : Value) (wr : World) : Prop :=
  ∃ (k p : Nat) (l : List Ent) (ao : Option Addr) (co : Nat), k ≤ m ∧ Hid (rowsTo d k = some (l, p)) ∧ v4 = .int .i64 (p : Nat) ∧ v5 = .slice ao k co ∧ v6 = .int .i64 (k : Nat) ∧ Sl wr 37 34 (.slice ao k co) k (cellsOf l) ∧ Fr w [] (blks (.slice ao k co)) ∧ Keep [] w wr
theorem ref_row_no {d : List UInt8} {k m p : Nat} {l : List Ent} (h0 : ¬ (d.length < 2 ∨ nAt d 0 ≠ 84 ∨ 32 < nAt d 1)) (hm : nAt d 1 = m) (h : rowsTo d k = some (l, p)) (hr : rowAt d p = none) (hk : k < m) : refO d = none := by
  have h1 : rowsTo d (k + 1) = none := by rw [rowsTo, h]; simp only; rw [hr]
  unfold refO
  rw [if_neg h0, hm, rowsTo_no h1 (by omega)]

set_option maxHeartbeats 8000000 in
set_option maxRecDepth 100000 in
theorem refParse_any (a : Option Addr) (n c : Nat) (d : List UInt8) (w : World) (hl : d.length = n) (hrd : Rd w a (bs d)) (hnc : n ≤ c) (hn : n ≤ 140737488355328) :
    Calls Tryd.prog 20 #[.slice a n c] w (GiveT w (parT d) (parC d)) := by
  have HL := Lib.hid hl
  by_cases h0 : n < 2
  · obtain ⟨g1, g2⟩ := par_ref_no (d := d) (by unfold refO; exact if_pos (Or.inl (by omega)))
    have HG := Lib.hid (And.intro g1 g2)
    have i1 : (n : Int) < 2 := by omega
    clear g1 g2 hl
    go_enter Tryd.func20, Tryd.ntmps20
    go_wp2_with fail
    go_returns
    rw [HG.out.1, HG.out.2]
    exact GiveT.nil (Keep.refl _ _)
  have i1 : ¬ (n : Int) < 2 := by omega
  obtain ⟨b, off, rfl, -⟩ := hrd.byte (k := 0) (by omega)
  have c0 := rd_at hrd (i := 0) (by omega)
  have c1 := rd_at hrd (i := 1) (by omega)
  obtain ⟨z, hz⟩ : ∃ z, nAt d 0 = z := ⟨_, rfl⟩
  obtain ⟨m, hm⟩ : ∃ m, nAt d 1 = m := ⟨_, rfl⟩
  have hm256 : m < 256 := by rw [← hm]; exact nAt_lt d 1
  rw [hz, Nat.add_zero] at c0
  rw [hm] at c1
  have HZ := Lib.hid hz
  have HM := Lib.hid hm
  have HRD := Lib.hid hrd
  have i9 : (1 : Int) < n := by omega
  have i8 : (0 : Int) < n := by omega
  clear hz hm hl hrd
  by_cases h1 : z = 84
  case neg =>
    obtain ⟨g1, g2⟩ := par_ref_no (d := d) (by unfold refO; exact if_pos (Or.inr (Or.inl (by rw [HZ.out]; exact h1))))
    have HG := Lib.hid (And.intro g1 g2)
    have i2 : ((z : Int) == 84) = false := by simp; omega
    have i2' : ¬ (z : Int) = 84 := by omega
    clear g1 g2
    go_enter Tryd.func20, Tryd.ntmps20
    go_wp2_with fail
    go_returns
    rw [HG.out.1, HG.out.2]
    exact GiveT.nil (Keep.refl _ _)
  subst h1
  by_cases h2 : 32 < m
  · obtain ⟨g1, g2⟩ := par_ref_no (d := d) (by unfold refO; exact if_pos (Or.inr (Or.inr (by rw [HM.out]; exact h2))))
    have HG := Lib.hid (And.intro g1 g2)
    have i3 : (32 : Int) < m := by omega
    clear g1 g2
    go_enter Tryd.func20, Tryd.ntmps20
    go_wp2_with fail
    go_returns
    rw [HG.out.1, HG.out.2]
    exact GiveT.nil (Keep.refl _ _)
  have i3 : ¬ (32 : Int) < m := by omega
  have HN0 := Lib.hid (show ¬ (d.length < 2 ∨ nAt d 0 ≠ 84 ∨ 32 < nAt d 1) by have := HL.out; have := HZ.out; have := HM.out; omega)
  obtain ⟨N, hN, hso⟩ := size37
  have HN := Lib.hid hN
  clear hN h0 h2
  go_enter Tryd.func20, Tryd.ntmps20
  go_upto_region 6 with fail
  go_loopw [4, 5, 6] (fun v4 v5 v6 wr => RfI w d m v4 v5 v6 wr) (fun _ _ v6 _ => m - (intOf v6).toNat)
  case atStart => exact ⟨0, 2, [], none, 0, by omega, Lib.hid rfl, rfl, rfl, rfl, Sl.nil _ _ _, by intro b hb; simp [blks, Value.ownBlock] at hb, Keep.refl _ _⟩
  case round =>
    obtain ⟨k, p, l, ao, co, hk, HR, rfl, rfl, rfl, sO, fO, kk⟩ := hrel
    have hp := (rowsTo_len HR.out).2.2.1
    have hp2 := (rowsTo_len HR.out).2.2.2 (by rw [HL.out]; omega)
    rw [HL.out] at hp2
    have c1 := kk.cell c1 (by simp)
    by_cases hlt : k < m
    · have i4 : (k : Int) < m := by omega
      by_cases h3 : n < p + 2
      · have HG := Lib.hid (par_ref_no (ref_row_no HN0.out HM.out HR.out (by unfold rowAt; exact if_pos (by rw [HL.out]; exact h3)) hlt))
        have i5 : (n : Int) < (p : Int) + 2 := by omega
        clear hp
        go_wp2_with fail
        go_returns
        rw [HG.out.1, HG.out.2]
        exact GiveT.nil kk
      have i5 : ¬ (n : Int) < (p : Int) + 2 := by omega
      have cn := rd_at (HRD.out.keep kk (by simp)) (i := p + 1) (by rw [HL.out]; omega)
      have ck := rd_at (HRD.out.keep kk (by simp)) (i := p) (by rw [HL.out]; omega)
      obtain ⟨q, hq⟩ : ∃ q, nAt d (p + 1) = q := ⟨_, rfl⟩
      obtain ⟨kd, hkd⟩ : ∃ q, nAt d p = q := ⟨_, rfl⟩
      have hq256 : q < 256 := by rw [← hq]; exact nAt_lt d _
      have hkd256 : kd < 256 := by rw [← hkd]; exact nAt_lt d _
      rw [hq] at cn
      rw [hkd] at ck
      have HQ := Lib.hid hq
      have HKD := Lib.hid hkd
      have e1 : ((p : Int) + 1).toNat = p + 1 := by omega
      have b1 : (p : Int) + 1 < n := by omega
      have b2 : 0 ≤ (p : Int) + 1 := by omega
      have b3 : (p : Int) < n := by omega
      have b4 : (0 : Int) ≤ p := by omega
      clear hq hkd
      by_cases h4 : 32 < q
      · have HG := Lib.hid (par_ref_no (ref_row_no HN0.out HM.out HR.out (by unfold rowAt; rw [if_neg (by rw [HL.out]; exact h3), HQ.out]; exact if_pos (Or.inl h4)) hlt))
        have i6 : (32 : Int) < q := by omega
        clear hp
        go_wp2_with fail
        go_returns
        rw [HG.out.1, HG.out.2]
        exact GiveT.nil kk
      have i6 : ¬ (32 : Int) < q := by omega
      by_cases h5 : n < p + 2 + q + 32
      · have HG := Lib.hid (par_ref_no (ref_row_no HN0.out HM.out HR.out (by unfold rowAt; rw [if_neg (by rw [HL.out]; exact h3), HQ.out, HL.out]; exact if_pos (Or.inr h5)) hlt))
        have i7 : (n : Int) < (p : Int) + 2 + q + 32 := by omega
        clear hp
        go_wp2_with fail
        go_returns
        rw [HG.out.1, HG.out.2]
        exact GiveT.nil kk
      have i7 : ¬ (n : Int) < (p : Int) + 2 + q + 32 := by omega
      obtain ⟨nm, hnm⟩ : ∃ nm : ByteArray, (⟨((d.drop (p + 2)).take q).toArray⟩ : ByteArray) = nm := ⟨_, rfl⟩
      have HROW := Lib.hid (show rowAt d p = some (entJ d nm kd (p + 2 + q) 32, p + 2 + q + 32) by
        unfold rowAt entAt entJ; rw [if_neg (by rw [HL.out]; exact h3), HQ.out, HL.out, HKD.out, if_neg (by omega), hnm])
      have HNM := Lib.hid hnm
      clear hnm
      have hq34 : q ≤ 32 := by omega
      have HLT := Lib.hid (show ((d.drop (p + 2)).take q).length = q by rw [List.length_take, List.length_drop, HL.out]; omega)
      go_upto_region 13 with fail
      go_cut [8] (fun v8 wc => ∃ px, v8 = .pointer (some ⟨px, 0, none⟩) ∧ wr.heap.size ≤ px ∧ Blk wc px (ent0 nm kd).cells.toArray 37 ∧ Keep [] wr wc)
      case first =>
        have ke : Keep [] wr wr.drew := (Keep.refl [] wr).drew
        have hle : wr.heap.size ≤ wr.drew.heap.size := Nat.le_refl _
        have HRP := Lib.hid (fun W k' => rd_part (HRD.out.keep (kk.trans' k') (by simp)) (by rw [HL.out]; omega) : ∀ W, Keep [] wr W → Rd W (some ⟨b, off + (p + 2), none⟩) (bs ((d.drop (p + 2)).take q)))
        have w3 : IntKind.i64.wrap (kd : Int) = kd := IntWalk.i64_in _ (by omega)
        obtain ⟨nb, hnb⟩ : ∃ nb, (d.drop (p + 2)).take q = nb := ⟨_, rfl⟩
        rw [hnb] at HRP HLT HNM
        clear hnb
        have w1 : IntKind.i64.wrap ((p : Int) + 2) = ((p + 2 : Nat) : Int) := by rw [IntWalk.i64_in _ (by omega)]; omega
        have w2 : IntKind.i64.wrap (((p + 2 : Nat) : Int) + q) = ((p + 2 + q : Nat) : Int) := by rw [IntWalk.i64_in _ (by omega)]; omega
        have e4 : p + 2 + q - (p + 2) = q := by omega
        have e5 : ¬ c = p + 2 := by omega
        have hcp : p + 2 + q ≤ c := by omega
        have hpq : p + 2 ≤ p + 2 + q := by omega
        obtain ⟨P3, hP3⟩ : ∃ P, p + 2 + q = P := ⟨_, rfl⟩
        obtain ⟨P2, hP2⟩ : ∃ P, p + 2 = P := ⟨_, rfl⟩
        rw [hP2] at w1 w2 e4 e5 HRP hpq
        rw [hP2] at hP3
        rw [hP2] at hcp
        rw [hP3] at w2 e4 hcp hpq
        have hcp2 : (P3 : Int) ≤ c := by omega
        have hpq2 : (P2 : Int) ≤ max (P3 : Int) 0 := by omega
        have hpq3 : (0 : Int) ≤ P3 := by omega
        clear hP2 hP3 hcp
        clear hp c1 sO fO
        refine wp_region_noPanic ?_
        refine wp_region_held_drew (S := fun w' => w'.cell? ⟨b, off + p, none⟩ = some (.int .u8 kd)) (by kernel_rfl) ?_ (fun hHeld0 => ?_)
        · (try dsimp only); exact ke.cell ck (by simp)
        refine wpAnyH_take (i := 0) (oi := ({ dst := some 57, op := Go.Op.move (Go.Operand.tmp 0), type := 26, pos := "tree.go:108", after := #[], guard := none } : Oper)) (v := ?_) rfl (by kernel_rfl) (by kernel_rfl) (by kernel_rfl) (fun _ _ _ h => h) (Or.inl ⟨by rfl, ?_⟩) (by assumption) ?_
        rotate_left
        · (intro w hSw; (try dsimp only at hSw); go_simp; try with_reducible rfl)
        try simp only [Act.put, List.setIfInBounds_toArray, List.set_cons_zero, List.set_cons_succ]
        refine wpAnyH_take (i := 1) (oi := ({ dst := some 58, op := Go.Op.move (Go.Operand.tmp 4), type := 3, pos := "tree.go:108", after := #[], guard := none } : Oper)) (v := ?_) rfl (by kernel_rfl) (by kernel_rfl) (by kernel_rfl) (fun _ _ _ h => h) (Or.inl ⟨by rfl, ?_⟩) (by assumption) ?_
        rotate_left
        · (intro w hSw; (try dsimp only at hSw); go_simp; try with_reducible rfl)
        try simp only [Act.put, List.setIfInBounds_toArray, List.set_cons_zero, List.set_cons_succ]
        refine wpAnyH_take (i := 2) (oi := ({ dst := some 59, op := Go.Op.binOp Go.BinOp.add 3 (Go.Operand.tmp 58) (Go.Operand.const (Go.Value.int Go.IntKind.i64 2)) 3, type := 3, pos := "tree.go:108", after := #[{ on := 1, ground := Go.Ground.data }], guard := none } : Oper)) (v := ?_) rfl (by kernel_rfl) (by kernel_rfl) (by kernel_rfl) (fun _ _ _ h => h) (Or.inl ⟨by rfl, ?_⟩) (by assumption) ?_
        rotate_left
        · (intro w hSw; (try dsimp only at hSw); go_simp; try with_reducible rfl)
        try simp only [Act.put, List.setIfInBounds_toArray, List.set_cons_zero, List.set_cons_succ]
        refine wpAnyH_take (i := 3) (oi := ({ dst := some 60, op := Go.Op.move (Go.Operand.tmp 4), type := 3, pos := "tree.go:108", after := #[], guard := none } : Oper)) (v := ?_) rfl (by kernel_rfl) (by kernel_rfl) (by kernel_rfl) (fun _ _ _ h => h) (Or.inl ⟨by rfl, ?_⟩) (by assumption) ?_
        rotate_left
        · (intro w hSw; (try dsimp only at hSw); go_simp; try with_reducible rfl)
        try simp only [Act.put, List.setIfInBounds_toArray, List.set_cons_zero, List.set_cons_succ]
        refine wpAnyH_take (i := 4) (oi := ({ dst := some 61, op := Go.Op.binOp Go.BinOp.add 3 (Go.Operand.tmp 60) (Go.Operand.const (Go.Value.int Go.IntKind.i64 2)) 3, type := 3, pos := "tree.go:108", after := #[{ on := 3, ground := Go.Ground.data }], guard := none } : Oper)) (v := ?_) rfl (by kernel_rfl) (by kernel_rfl) (by kernel_rfl) (fun _ _ _ h => h) (Or.inl ⟨by rfl, ?_⟩) (by assumption) ?_
        rotate_left
        · (intro w hSw; (try dsimp only at hSw); go_simp; try with_reducible rfl)
        try simp only [Act.put, List.setIfInBounds_toArray, List.set_cons_zero, List.set_cons_succ]
        refine wpAnyH_take (i := 5) (oi := ({ dst := some 62, op := Go.Op.move (Go.Operand.tmp 7), type := 3, pos := "tree.go:108", after := #[], guard := none } : Oper)) (v := ?_) rfl (by kernel_rfl) (by kernel_rfl) (by kernel_rfl) (fun _ _ _ h => h) (Or.inl ⟨by rfl, ?_⟩) (by assumption) ?_
        rotate_left
        · (intro w hSw; (try dsimp only at hSw); go_simp; try with_reducible rfl)
        try simp only [Act.put, List.setIfInBounds_toArray, List.set_cons_zero, List.set_cons_succ]
        refine wpAnyH_take (i := 6) (oi := ({ dst := some 63, op := Go.Op.binOp Go.BinOp.add 3 (Go.Operand.tmp 61) (Go.Operand.tmp 62) 3, type := 3, pos := "tree.go:108", after := #[{ on := 4, ground := Go.Ground.data }, { on := 5, ground := Go.Ground.data }], guard := none } : Oper)) (v := ?_) rfl (by kernel_rfl) (by kernel_rfl) (by kernel_rfl) (fun _ _ _ h => h) (Or.inl ⟨by rfl, ?_⟩) (by assumption) ?_
        rotate_left
        · (intro w hSw; (try dsimp only at hSw); go_simp; try with_reducible rfl)
        try simp only [Act.put, List.setIfInBounds_toArray, List.set_cons_zero, List.set_cons_succ]
        refine wpAnyH_take (i := 7) (oi := ({ dst := some 64, op := Go.Op.slice 26 (Go.Operand.tmp 57) (some (Go.Operand.tmp 59)) (some (Go.Operand.tmp 63)) none, type := 26, pos := "tree.go:108", after := #[{ on := 0, ground := Go.Ground.data }, { on := 2, ground := Go.Ground.data }, { on := 6, ground := Go.Ground.data }], guard := none } : Oper)) (v := ?_) rfl (by kernel_rfl) (by kernel_rfl) (by kernel_rfl) (fun _ _ _ h => h) (Or.inl ⟨by rfl, ?_⟩) (by assumption) ?_
        rotate_left
        · (intro w hSw; (try dsimp only at hSw); go_simp; try with_reducible rfl)
        try simp only [Act.put, List.setIfInBounds_toArray, List.set_cons_zero, List.set_cons_succ]
        refine wpAnyH_take (i := 9) (oi := ({ dst := some 66, op := Go.Op.move (Go.Operand.tmp 0), type := 26, pos := "tree.go:108", after := #[], guard := none } : Oper)) (v := ?_) rfl (by kernel_rfl) (by kernel_rfl) (by kernel_rfl) (fun _ _ _ h => h) (Or.inl ⟨by rfl, ?_⟩) (by assumption) ?_
        rotate_left
        · (intro w hSw; (try dsimp only at hSw); go_simp; try with_reducible rfl)
        try simp only [Act.put, List.setIfInBounds_toArray, List.set_cons_zero, List.set_cons_succ]
        refine wpAnyH_take (i := 10) (oi := ({ dst := some 67, op := Go.Op.move (Go.Operand.tmp 4), type := 3, pos := "tree.go:108", after := #[], guard := none } : Oper)) (v := ?_) rfl (by kernel_rfl) (by kernel_rfl) (by kernel_rfl) (fun _ _ _ h => h) (Or.inl ⟨by rfl, ?_⟩) (by assumption) ?_
        rotate_left
        · (intro w hSw; (try dsimp only at hSw); go_simp; try with_reducible rfl)
        try simp only [Act.put, List.setIfInBounds_toArray, List.set_cons_zero, List.set_cons_succ]
        refine wpAnyH_take (i := 11) (oi := ({ dst := some 68, op := Go.Op.indexAddr 26 (Go.Operand.tmp 66) (Go.Operand.tmp 67), type := 0, pos := "tree.go:108", after := #[{ on := 9, ground := Go.Ground.data }, { on := 10, ground := Go.Ground.data }], guard := none } : Oper)) (v := ?_) rfl (by kernel_rfl) (by kernel_rfl) (by kernel_rfl) (fun _ _ _ h => h) (Or.inl ⟨by rfl, ?_⟩) (by assumption) ?_
        rotate_left
        · (intro w hSw; (try dsimp only at hSw); go_simp; try with_reducible rfl)
        try simp only [Act.put, List.setIfInBounds_toArray, List.set_cons_zero, List.set_cons_succ]
        refine wpAnyH_take (i := 12) (oi := ({ dst := some 69, op := Go.Op.load 5 (Go.Operand.tmp 68), type := 5, pos := "tree.go:108", after := #[{ on := 11, ground := Go.Ground.data }], guard := none } : Oper)) (v := ?_) rfl (by kernel_rfl) (by kernel_rfl) (by kernel_rfl) (fun _ _ _ h => h) (Or.inl ⟨by rfl, ?_⟩) (by assumption) ?_
        rotate_left
        · (intro w hSw; (try dsimp only at hSw); go_simp; try with_reducible rfl)
        try simp only [Act.put, List.setIfInBounds_toArray, List.set_cons_zero, List.set_cons_succ]
        refine wpAnyH_take (i := 13) (oi := ({ dst := some 70, op := Go.Op.convert 5 3 (Go.Operand.tmp 69), type := 3, pos := "tree.go:108", after := #[{ on := 12, ground := Go.Ground.data }], guard := none } : Oper)) (v := ?_) rfl (by kernel_rfl) (by kernel_rfl) (by kernel_rfl) (fun _ _ _ h => h) (Or.inl ⟨by rfl, ?_⟩) (by assumption) ?_
        rotate_left
        · (intro w hSw; (try dsimp only at hSw); go_simp; try with_reducible rfl)
        try simp only [Act.put, List.setIfInBounds_toArray, List.set_cons_zero, List.set_cons_succ]
        refine wpAnyH_ready (rs := [8, 15]) (by kernel_rfl) (by simp) ?_
        refine (AllReadyH.cons (o := ({ dst := some 65, op := Go.Op.convert 26 9 (Go.Operand.tmp 64), type := 9, pos := "tree.go:108", after := #[{ on := 7, ground := Go.Ground.data }], guard := none } : Oper)) rfl (fun K hK => ?_) (AllReadyH.cons (o := ({ dst := some 8, op := Go.Op.alloc 37, type := 0, pos := "tree.go:108", after := #[], guard := none } : Oper)) rfl (fun K hK => ?_) AllReadyH.nil))
        · (refine step_strR rfl (.tmp 64) rfl b (off + P2) q (c - P2) nb rfl HLT.out (HRP.out _ ke) ?_; rw [HNM.out])
          refine hK.out _ _ ?_ (fun hHeld1 => ?_)
          · (try dsimp only); exact ke.cell ck (by simp)
          clear hK K
          try simp only [Act.put, List.setIfInBounds_toArray, List.set_cons_zero, List.set_cons_succ]
          refine wpAnyH_ready (rs := [14, 15]) (by kernel_rfl) (by simp) ?_
          refine (AllReadyH.cons (o := ({ dst := some 71, op := Go.Op.build 37 #[(0, Go.Operand.tmp 65), (1, Go.Operand.tmp 70)], type := 37, pos := "tree.go:108", after := #[{ on := 8, ground := Go.Ground.data }, { on := 13, ground := Go.Ground.data }], guard := none } : Oper)) rfl (fun K hK => ?_) (AllReadyH.cons (o := ({ dst := some 8, op := Go.Op.alloc 37, type := 0, pos := "tree.go:108", after := #[], guard := none } : Oper)) rfl (fun K hK => ?_) AllReadyH.nil))
          · (refine step_buildE2 rfl (.tmp 70) (.tmp 65) rfl kd nm rfl rfl ?_)
            refine hK.out _ _ ?_ (fun hHeld2 => ?_)
            · (try dsimp only); exact ke.cell ck (by simp)
            clear hK K
            try simp only [Act.put, List.setIfInBounds_toArray, List.set_cons_zero, List.set_cons_succ]
            refine wpAnyH_ready (rs := [15]) (by kernel_rfl) (by simp) ?_
            refine (AllReadyH.cons (o := ({ dst := some 8, op := Go.Op.alloc 37, type := 0, pos := "tree.go:108", after := #[], guard := none } : Oper)) rfl (fun K hK => ?_) AllReadyH.nil)
            (refine step_allocE rfl rfl ?_; intro px wN hpx Bc kn; have hpx := Nat.le_trans ke.size hpx; have ke := ke.trans' kn)
            refine hK.out _ _ ?_ (fun hHeld3 => ?_)
            · (try dsimp only); exact ke.cell ck (by simp)
            clear hK K
            try simp only [Act.put, List.setIfInBounds_toArray, List.set_cons_zero, List.set_cons_succ]
            refine wpAnyH_ready (rs := [16]) (by kernel_rfl) (by simp) ?_
            refine (AllReadyH.cons (o := ({ dst := none, op := Go.Op.store 37 (Go.Operand.tmp 8) (Go.Operand.tmp 71), type := 0, pos := "tree.go:108", after := #[{ on := 15, ground := Go.Ground.data }, { on := 14, ground := Go.Ground.data }, { on := 0, ground := Go.Ground.phase }, { on := 1, ground := Go.Ground.phase }, { on := 2, ground := Go.Ground.phase }, { on := 3, ground := Go.Ground.phase }, { on := 4, ground := Go.Ground.phase }, { on := 5, ground := Go.Ground.phase }, { on := 6, ground := Go.Ground.phase }, { on := 7, ground := Go.Ground.phase }, { on := 8, ground := Go.Ground.phase }, { on := 9, ground := Go.Ground.phase }, { on := 10, ground := Go.Ground.phase }, { on := 11, ground := Go.Ground.phase }, { on := 12, ground := Go.Ground.phase }, { on := 13, ground := Go.Ground.phase }, { on := 14, ground := Go.Ground.phase }, { on := 15, ground := Go.Ground.phase }], guard := none } : Oper)) rfl (fun K hK => ?_) AllReadyH.nil)
            (refine step_storeE rfl (.tmp 8) (.tmp 71) rfl px (ent0 nm kd) _ rfl rfl Bc rfl ?_; intro wN Bn kn; have ke := ke.trans kn (fun b hb => by simp only [List.mem_singleton] at hb; subst hb; exact Or.inr hpx))
            refine hK.out _ _ ?_ (fun hHeld4 => ?_)
            · (try dsimp only); exact ke.cell ck (by simp)
            clear hK K
            try simp only [Act.put, List.setIfInBounds_toArray, List.set_cons_zero, List.set_cons_succ]
            refine wpAnyH_done (by kernel_rfl) ?_ _
            refine NoPanic.normal ?_
            (go_wp2_with fail; go_meet; case rel => exact ⟨px, rfl, hpx, Bn, ke⟩)
          · (refine step_allocE rfl rfl ?_; intro px wN hpx Bc kn; have hpx := Nat.le_trans ke.size hpx; have ke := ke.trans' kn)
            refine hK.out _ _ ?_ (fun hHeld4 => ?_)
            · (try dsimp only); exact ke.cell ck (by simp)
            clear hK K
            try simp only [Act.put, List.setIfInBounds_toArray, List.set_cons_zero, List.set_cons_succ]
            refine wpAnyH_ready (rs := [14]) (by kernel_rfl) (by simp) ?_
            refine (AllReadyH.cons (o := ({ dst := some 71, op := Go.Op.build 37 #[(0, Go.Operand.tmp 65), (1, Go.Operand.tmp 70)], type := 37, pos := "tree.go:108", after := #[{ on := 8, ground := Go.Ground.data }, { on := 13, ground := Go.Ground.data }], guard := none } : Oper)) rfl (fun K hK => ?_) AllReadyH.nil)
            (refine step_buildE2 rfl (.tmp 70) (.tmp 65) rfl kd nm rfl rfl ?_)
            refine hK.out _ _ ?_ (fun hHeld5 => ?_)
            · (try dsimp only); exact ke.cell ck (by simp)
            clear hK K
            try simp only [Act.put, List.setIfInBounds_toArray, List.set_cons_zero, List.set_cons_succ]
            refine wpAnyH_ready (rs := [16]) (by kernel_rfl) (by simp) ?_
            refine (AllReadyH.cons (o := ({ dst := none, op := Go.Op.store 37 (Go.Operand.tmp 8) (Go.Operand.tmp 71), type := 0, pos := "tree.go:108", after := #[{ on := 15, ground := Go.Ground.data }, { on := 14, ground := Go.Ground.data }, { on := 0, ground := Go.Ground.phase }, { on := 1, ground := Go.Ground.phase }, { on := 2, ground := Go.Ground.phase }, { on := 3, ground := Go.Ground.phase }, { on := 4, ground := Go.Ground.phase }, { on := 5, ground := Go.Ground.phase }, { on := 6, ground := Go.Ground.phase }, { on := 7, ground := Go.Ground.phase }, { on := 8, ground := Go.Ground.phase }, { on := 9, ground := Go.Ground.phase }, { on := 10, ground := Go.Ground.phase }, { on := 11, ground := Go.Ground.phase }, { on := 12, ground := Go.Ground.phase }, { on := 13, ground := Go.Ground.phase }, { on := 14, ground := Go.Ground.phase }, { on := 15, ground := Go.Ground.phase }], guard := none } : Oper)) rfl (fun K hK => ?_) AllReadyH.nil)
            (refine step_storeE rfl (.tmp 8) (.tmp 71) rfl px (ent0 nm kd) _ rfl rfl Bc rfl ?_; intro wN Bn kn; have ke := ke.trans kn (fun b hb => by simp only [List.mem_singleton] at hb; subst hb; exact Or.inr hpx))
            refine hK.out _ _ ?_ (fun hHeld6 => ?_)
            · (try dsimp only); exact ke.cell ck (by simp)
            clear hK K
            try simp only [Act.put, List.setIfInBounds_toArray, List.set_cons_zero, List.set_cons_succ]
            refine wpAnyH_done (by kernel_rfl) ?_ _
            refine NoPanic.normal ?_
            (go_wp2_with fail; go_meet; case rel => exact ⟨px, rfl, hpx, Bn, ke⟩)
        · (refine step_allocE rfl rfl ?_; intro px wN hpx Bc kn; have hpx := Nat.le_trans ke.size hpx; have ke := ke.trans' kn)
          refine hK.out _ _ ?_ (fun hHeld6 => ?_)
          · (try dsimp only); exact ke.cell ck (by simp)
          clear hK K
          try simp only [Act.put, List.setIfInBounds_toArray, List.set_cons_zero, List.set_cons_succ]
          refine wpAnyH_ready (rs := [8]) (by kernel_rfl) (by simp) ?_
          refine (AllReadyH.cons (o := ({ dst := some 65, op := Go.Op.convert 26 9 (Go.Operand.tmp 64), type := 9, pos := "tree.go:108", after := #[{ on := 7, ground := Go.Ground.data }], guard := none } : Oper)) rfl (fun K hK => ?_) AllReadyH.nil)
          (refine step_strR rfl (.tmp 64) rfl b (off + P2) q (c - P2) nb rfl HLT.out (HRP.out _ ke) ?_; rw [HNM.out])
          refine hK.out _ _ ?_ (fun hHeld7 => ?_)
          · (try dsimp only); exact ke.cell ck (by simp)
          clear hK K
          try simp only [Act.put, List.setIfInBounds_toArray, List.set_cons_zero, List.set_cons_succ]
          refine wpAnyH_ready (rs := [14]) (by kernel_rfl) (by simp) ?_
          refine (AllReadyH.cons (o := ({ dst := some 71, op := Go.Op.build 37 #[(0, Go.Operand.tmp 65), (1, Go.Operand.tmp 70)], type := 37, pos := "tree.go:108", after := #[{ on := 8, ground := Go.Ground.data }, { on := 13, ground := Go.Ground.data }], guard := none } : Oper)) rfl (fun K hK => ?_) AllReadyH.nil)
          (refine step_buildE2 rfl (.tmp 70) (.tmp 65) rfl kd nm rfl rfl ?_)
          refine hK.out _ _ ?_ (fun hHeld8 => ?_)
          · (try dsimp only); exact ke.cell ck (by simp)
          clear hK K
          try simp only [Act.put, List.setIfInBounds_toArray, List.set_cons_zero, List.set_cons_succ]
          refine wpAnyH_ready (rs := [16]) (by kernel_rfl) (by simp) ?_
          refine (AllReadyH.cons (o := ({ dst := none, op := Go.Op.store 37 (Go.Operand.tmp 8) (Go.Operand.tmp 71), type := 0, pos := "tree.go:108", after := #[{ on := 15, ground := Go.Ground.data }, { on := 14, ground := Go.Ground.data }, { on := 0, ground := Go.Ground.phase }, { on := 1, ground := Go.Ground.phase }, { on := 2, ground := Go.Ground.phase }, { on := 3, ground := Go.Ground.phase }, { on := 4, ground := Go.Ground.phase }, { on := 5, ground := Go.Ground.phase }, { on := 6, ground := Go.Ground.phase }, { on := 7, ground := Go.Ground.phase }, { on := 8, ground := Go.Ground.phase }, { on := 9, ground := Go.Ground.phase }, { on := 10, ground := Go.Ground.phase }, { on := 11, ground := Go.Ground.phase }, { on := 12, ground := Go.Ground.phase }, { on := 13, ground := Go.Ground.phase }, { on := 14, ground := Go.Ground.phase }, { on := 15, ground := Go.Ground.phase }], guard := none } : Oper)) rfl (fun K hK => ?_) AllReadyH.nil)
          (refine step_storeE rfl (.tmp 8) (.tmp 71) rfl px (ent0 nm kd) _ rfl rfl Bc rfl ?_; intro wN Bn kn; have ke := ke.trans kn (fun b hb => by simp only [List.mem_singleton] at hb; subst hb; exact Or.inr hpx))
          refine hK.out _ _ ?_ (fun hHeld9 => ?_)
          · (try dsimp only); exact ke.cell ck (by simp)
          clear hK K
          try simp only [Act.put, List.setIfInBounds_toArray, List.set_cons_zero, List.set_cons_succ]
          refine wpAnyH_done (by kernel_rfl) ?_ _
          refine NoPanic.normal ?_
          (go_wp2_with fail; go_meet; case rel => exact ⟨px, rfl, hpx, Bn, ke⟩)
      case rest =>
        obtain ⟨px, rfl, hpx, BE, kE⟩ := hcut
        rw [← entJ_zero d nm kd (p + 2 + q)] at BE
        have sOz := sO.keep kE (by simp)
        have kkz := kk.trans' kE
        have hpO : ∀ b ∈ blks (.slice ao k co), b ≠ px := fun b hb => by have := sO.lt b hb; omega
        have hpw0 : w.heap.size ≤ px := by have := kk.size; omega
        clear sO kk c1 ck cn kE
        go_upto_region 15 with fail
        go_loopw [9] (fun v9 wr => ∃ j, j ≤ 32 ∧ v9 = .int .i64 (j : Nat) ∧ Blk wr px (entJ d nm kd (p + 2 + q) j).cells.toArray 37 ∧ Keep [px] wc wr) (fun v9 _ => 32 - (intOf v9).toNat)
        case atStart => exact ⟨0, by omega, rfl, BE, Keep.refl _ _⟩
        case round =>
          clear BE
          obtain ⟨j, hj, rfl, BJ, kj⟩ := hrel
          have kwj : Keep [] w wr := kkz.trans kj (fun b hb => by simp only [List.mem_singleton] at hb; subst hb; exact Or.inr hpw0)
          by_cases hjt : j < 32
          · have j1 : (j : Int) < 32 := by omega
            have j0 : (0 : Int) ≤ j := by omega
            have cA := rd_at (HRD.out.keep kwj (by simp)) (i := p + 2 + q + j) (by rw [HL.out]; omega)
            obtain ⟨u1, hu1, hu1c⟩ := ent_cell (x := entJ d nm kd (p + 2 + q) j) hjt
            have e1 : ((p : Int) + 2 + q + j).toNat = p + 2 + q + j := by omega
            have b1 : (p : Int) + 2 + q + j < n := by omega
            have b3 : 0 ≤ (p : Int) + 2 + q + j := by omega
            have c1 : wr.cell? ⟨px, 2 + j, none⟩ = some u1 := BJ.cell hu1
            have f1 : wr.frozen? ⟨px, 2 + j, none⟩ = false := BJ.free
            obtain ⟨y1, hy1⟩ : ∃ y, nAt d (p + 2 + q + j) = y := ⟨_, rfl⟩
            rw [hy1] at cA
            have HY1 := Lib.hid hy1
            clear hu1 hy1 hp
            go_wp2_with fail
            have BA := BJ.set (2 + j) (.int .u8 (y1 : Nat))
            rw [← HY1.out, entJ_set hjt (by rw [HL.out]; omega), HY1.out] at BA
            exact ⟨⟨j + 1, by omega, by go_num, BA, kj.set (Or.inl (by simp)) _⟩, by simp [intOf]; omega⟩
          · obtain rfl : j = 32 := by omega
            obtain ⟨x, hx⟩ : ∃ x, entJ d nm kd (p + 2 + q) 32 = x := ⟨_, rfl⟩
            rw [hx] at BJ HROW
            have sOj := sOz.keep kj (fun b hb hb' => by simp only [List.mem_singleton] at hb'; exact hpO b hb hb')
            obtain ⟨q8, hq8⟩ : ∃ q, wr.heap.size = q := ⟨_, rfl⟩
            obtain ⟨w9, hw9⟩ : ∃ W, wr.alloc (.cells x.cells.toArray 37) = W := ⟨_, rfl⟩
            have hab := after_build (x := x) sOj
            rw [hw9, hq8] at hab
            have HW9 := Lib.hid hw9
            have HQ8 := Lib.hid hq8
            have kk9 := kwj.trans' hab.2.2
            have k33 : k + 1 ≤ 33 := by omega
            clear hw9 hq8 hx sOz hp
            go_upto_region 19 with (first
              | (refine wpList_load_mid rfl 37 (.tmp 8) rfl px 0 rfl x.cells _ (rangeAt_of_blk BJ) Tryd.underlying37 rfl (hi37 x) ?_)
              | (refine wpList_build1 rfl 24 37 (.tmp 89) rfl x.cells.toArray rfl _ 34 56 Tryd.underlying24 info37 (by simp [x.len]) (by omega) (by omega) ?_; rw [HW9.out, HQ8.out])
              | (at_builtin; go_must (refine wpList_appendN rfl (.tmp 88) (.tmp 90) 24 rfl 37 _ 34 56 Tryd.underlying24 info37 zeroC37 (by omega) (.slice ao k co) k (cellsOf l) rfl hab.1 (some ⟨q8, 0, none⟩) 1 1 x.cells rfl (ent_len1 x) (by simp) hab.2.1 x.one (by simp only [maxLen]; omega) (by omega) ?_; intro a6 c6 w6 hs6 hk6 hf6))
              | fail)
            have kk6 : Keep [] w w6 := kk9.trans hk6 (fun b hb => by rcases fO b hb with h | h; cases h; exact Or.inr h)
            have fO6 := fO.trans hf6 kk9.size
            have HNX := Lib.hid (show rowsTo d (k + 1) = some (l ++ [x], p + 2 + q + 32) by rw [rowsTo, HR.out]; simp only; rw [HROW.out])
            clear hk6 hf6 hab BJ kk9 sOj
            go_wp2_with fail
            exact ⟨⟨k + 1, p + 2 + q + 32, l ++ [x], a6, c6, by omega, HNX, by go_num, rfl, by go_num, by rw [cellsOf_append, cellsOf_one]; exact hs6, fO6, kk6⟩, by simp [intOf]; omega⟩
    · obtain rfl : k = m := by omega
      have hll := (rowsTo_len HR.out).1
      have hE := esIn_of sO hll (by omega) (rowsTo_names HR.out)
      have CI := Lib.hid (fun W' k' => is_any ao k co l W' (hE.keep k' (by simp)) : ∀ W', Keep [] wr W' → Calls Tryd.prog 23 #[.slice ao k co] W' fun e w' => e = .returned (.bool (isT l)) ∧ Keep [] W' w')
      have HRF := Lib.hid (show refO d = if p = d.length ∧ isT l = true then some l else none by unfold refO; rw [if_neg HN0.out, HM.out, HR.out])
      clear hE hp
      by_cases h3 : p = n
      case neg =>
        have HG := Lib.hid (par_ref_no (d := d) (by rw [HRF.out, HL.out]; exact if_neg (fun h => h3 h.1)))
        have i5 : ((p : Int) == n) = false := by simp; omega
        have i6 : ¬ (p : Int) = n := by omega
        clear HRF
        go_wp2_with fail
        go_returns
        rw [HG.out.1, HG.out.2]
        exact GiveT.nil kk
      have i5 : ((p : Int) == n) = true := by simp; omega
      have i6 : (p : Int) = n := by omega
      cases hT : isT l with
      | false =>
        have HG := Lib.hid (par_ref_no (d := d) (by rw [HRF.out, hT]; exact if_neg (fun h => by cases h.2)))
        rw [hT] at CI
        clear hT HRF
        go_wp2_with (first
          | (go_at_call 23; refine (CI.out _ (Keep.refl _ _)).mono ?_; rintro e w5 ⟨rfl, k5⟩)
          | fail)
        go_returns
        rw [HG.out.1, HG.out.2]
        exact GiveT.nil (kk.trans' k5)
      | true =>
        obtain ⟨g1, g2⟩ := par_yes (d := d) (l := l) (by rw [par_ref, HRF.out, hT, HL.out]; exact if_pos ⟨h3, rfl⟩)
        have HG := Lib.hid (And.intro g1 g2)
        rw [hT] at CI
        have HLL := Lib.hid hll
        clear hT HRF g1 g2 hll
        go_wp2_with (first
          | (go_at_call 23; refine (CI.out _ (Keep.refl _ _)).mono ?_; rintro e w5 ⟨rfl, k5⟩)
          | fail)
        go_returns
        rw [HG.out.1, HG.out.2]
        exact ⟨ao, co, by rw [HLL.out]; rfl, by rw [HLL.out]; exact sO.keep k5 (by simp), by rw [HLL.out]; exact fO, kk.trans' k5⟩
end Go.Proofs.YtgeihjpifbkpkaaDoor

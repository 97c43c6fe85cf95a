/- ids: lists of ids compared. -/
import Derived.Test.YtjdkeabimcajlaaSa
set_option linter.unusedVariables false
set_option linter.unusedSimpArgs false
namespace Go.Proofs.Ytjdkeabimcajlaa
open Go.RowKit

theorem idCells_len {k : List (List UInt8)} (h : ∀ i ∈ k, i.length = 32) : (idCells k).length = k.length * 32 := by
  induction k with
  | nil => rfl
  | cons x k ih =>
    rw [idCells, List.flatMap_cons, List.length_append, bs_length, h x (by simp), ← idCells, ih (fun i hi => h i (by simp [hi])), List.length_cons]; omega
theorem idCells_get {k : List (List UInt8)} (hk : ∀ i ∈ k, i.length = 32) {i : Nat} {x : List UInt8} (h : k[i]? = some x) {j : Nat} (hj : j < 32) : (idCells k)[i * 32 + j]? = (bs x)[j]? := by
  obtain ⟨hi, e⟩ := List.getElem?_eq_some_iff.1 h
  have hs : k = k.take i ++ x :: k.drop (i + 1) := by rw [← e, List.getElem_cons_drop, List.take_append_drop]
  have hl : (idCells (k.take i)).length = i * 32 := by rw [idCells_len (fun y hy => hk y (List.mem_of_mem_take hy)), List.length_take, Nat.min_eq_left (by omega)]
  have hx : x.length = 32 := hk x (List.mem_of_getElem? h)
  rw [hs, idCells_append, List.getElem?_append_right (by rw [hl]; omega), hl, Nat.add_sub_cancel_left, idCells, List.flatMap_cons, List.getElem?_append_left (by rw [bs_length, hx]; exact hj)]
/-- A slice of ids that lies somewhere. -/
structure IdsIn (w : World) (a : Option Addr) (n : Nat) (k : List (List UInt8)) : Prop where
  hlen : k.length = n
  rd : Rd w a (idCells k)
  h32 : ∀ i ∈ k, i.length = 32
theorem IdsIn.keep {w w' : World} {a : Option Addr} {n : Nat} {k : List (List UInt8)} (h : IdsIn w a n k) (kk : Keep [] w w') : IdsIn w' a n k := ⟨h.hlen, h.rd.keep kk (fun _ => by simp), h.h32⟩
theorem IdsIn.at {w : World} {a : Option Addr} {n i : Nat} {k : List (List UInt8)} (h : IdsIn w a n k) (hi : i < n) : ∃ x b off, k[i]? = some x ∧ x.length = 32 ∧ a = some ⟨b, off, none⟩ ∧ w.rangeAt b (off + i * 32) (bs x) := by
  have hl := h.hlen
  have hg := List.getElem?_eq_getElem (l := k) (i := i) (by omega)
  have hx := h.h32 _ (List.getElem_mem (l := k) (n := i) (by omega))
  rcases h.rd with e | ⟨b, off, e, hc⟩
  · have := congrArg List.length e
    rw [idCells_len h.h32, List.length_nil] at this; omega
  · refine ⟨_, b, off, hg, hx, e, fun j v hv => ?_⟩
    have hj := (List.getElem?_eq_some_iff.1 hv).1
    rw [bs_length, hx] at hj
    rw [Nat.add_assoc]
    exact hc _ v ((idCells_get h.h32 hg hj).trans hv)

set_option maxHeartbeats 2000000 in
set_option maxRecDepth 100000 in
theorem ids_any (a b : Option Addr) (n c m d : Nat) (xs ys : List (List UInt8)) (w : World) (hx : IdsIn w a n xs) (hy : IdsIn w b m ys) (hn : n ≤ 140737488355328) :
    Calls Try.prog 27 #[.slice a n c, .slice b m d] w fun e w' => e = .returned (.bool (decide (xs = ys))) ∧ Keep [] w w' := by
  have HX := Lib.hid hx.hlen
  have HY := Lib.hid hy.hlen
  by_cases hnm : n = m
  · subst hnm
    obtain ⟨N, hN, hso⟩ := size37
    have HN := Lib.hid hN
    clear hN
    go_enter Try.func27, Try.ntmps27
    go_upto_region 3 with fail
    go_wp2_with fail
    go_loopw [5] (fun v wr => ∃ i, i ≤ n ∧ v = .int .i64 (i : Nat) ∧ Hid (xs.take i = ys.take i) ∧ Keep [] w wr) (fun v _ => n - (intOf v).toNat)
    case atStart => exact ⟨0, by omega, rfl, Lib.hid (by simp), Keep.refl _ _⟩
    case round =>
      obtain ⟨i, hi, rfl, HT, kk⟩ := hrel
      by_cases hlt : i < n
      · obtain ⟨x, b1, o1, ex, hx32, rfl, rx⟩ := (hx.keep kk).at hlt
        obtain ⟨y, b2, o2, ey, hy32, rfl, ry⟩ := (hy.keep kk).at hlt
        rw [HN.out] at rx ry
        have i0 : (0 : Int) ≤ i := by omega
        have i1 : (i : Int) < n := by omega
        have HEX := Lib.hid ex
        have HEY := Lib.hid ey
        have heq : ∀ w, (Op.equalIn 10000 37 (.agg (bs x).toArray) (.agg (bs y).toArray)).run Try.prog w = .ok (x == y) w := eql_id 9998 x y hx32 hy32
        clear ex ey
        by_cases hxy : x = y
        · have t1 : (x == y) = true := by simpa using hxy
          have HXY := Lib.hid hxy
          clear hxy
          go_wp2_with fail
          refine wp_region_noPanic ?_
          refine wp_region_held_drew (S := fun W => Keep [] wr W) (by kernel_rfl) ?_ (fun hHeld0 => ?_)
          · (try dsimp only); exact (Keep.refl [] _).drew
          refine wpAnyH_take (i := 0) (oi := ({ dst := some 17, op := Go.Op.move (Go.Operand.tmp 0), type := 45, pos := "law.go:39", after := #[], guard := none } : Oper)) (v := ?_) rfl (by kernel_rfl) (by kernel_rfl) (by kernel_rfl) (fun _ _ _ h => h) (Or.inl ⟨by rfl, ?_⟩) (by assumption) ?_
          rotate_left
          · (intro w hSw; (try dsimp only at hSw); go_simp; try with_reducible rfl)
          try simp only [Act.put, List.setIfInBounds_toArray, List.set_cons_zero, List.set_cons_succ]
          refine wpAnyH_take (i := 1) (oi := ({ dst := some 18, op := Go.Op.move (Go.Operand.tmp 5), type := 3, pos := "law.go:39", after := #[], guard := none } : Oper)) (v := ?_) rfl (by kernel_rfl) (by kernel_rfl) (by kernel_rfl) (fun _ _ _ h => h) (Or.inl ⟨by rfl, ?_⟩) (by assumption) ?_
          rotate_left
          · (intro w hSw; (try dsimp only at hSw); go_simp; try with_reducible rfl)
          try simp only [Act.put, List.setIfInBounds_toArray, List.set_cons_zero, List.set_cons_succ]
          refine wpAnyH_take (i := 2) (oi := ({ dst := some 19, op := Go.Op.indexAddr 45 (Go.Operand.tmp 17) (Go.Operand.tmp 18), type := 0, pos := "law.go:39", after := #[{ on := 0, ground := Go.Ground.data }, { on := 1, ground := Go.Ground.data }], guard := none } : Oper)) (v := ?_) rfl (by kernel_rfl) (by kernel_rfl) (by kernel_rfl) (fun _ _ _ h => h) (Or.inl ⟨by rfl, ?_⟩) (by assumption) ?_
          rotate_left
          · (intro w hSw; (try dsimp only at hSw); go_simp; try with_reducible rfl)
          try simp only [Act.put, List.setIfInBounds_toArray, List.set_cons_zero, List.set_cons_succ]
          refine wpAnyH_take (i := 3) (oi := ({ dst := some 20, op := Go.Op.load 37 (Go.Operand.tmp 19), type := 37, pos := "law.go:39", after := #[{ on := 2, ground := Go.Ground.data }], guard := none } : Oper)) (v := .agg (List.toArray (bs x))) rfl (by kernel_rfl) (by kernel_rfl) (by kernel_rfl) (fun _ _ _ h => h) (yieldsIf_load_mid (by rfl) _ _ rfl _ _ rfl (bs x) _ (fun w hSw => (rangeAt_keep rx hSw (by simp))) Try.underlying37 rfl (hi37 hx32)) (by assumption) ?_
          try simp only [Act.put, List.setIfInBounds_toArray, List.set_cons_zero, List.set_cons_succ]
          refine wpAnyH_take (i := 4) (oi := ({ dst := some 21, op := Go.Op.move (Go.Operand.tmp 1), type := 45, pos := "law.go:39", after := #[], guard := none } : Oper)) (v := ?_) rfl (by kernel_rfl) (by kernel_rfl) (by kernel_rfl) (fun _ _ _ h => h) (Or.inl ⟨by rfl, ?_⟩) (by assumption) ?_
          rotate_left
          · (intro w hSw; (try dsimp only at hSw); go_simp; try with_reducible rfl)
          try simp only [Act.put, List.setIfInBounds_toArray, List.set_cons_zero, List.set_cons_succ]
          refine wpAnyH_take (i := 5) (oi := ({ dst := some 22, op := Go.Op.move (Go.Operand.tmp 5), type := 3, pos := "law.go:39", after := #[], guard := none } : Oper)) (v := ?_) rfl (by kernel_rfl) (by kernel_rfl) (by kernel_rfl) (fun _ _ _ h => h) (Or.inl ⟨by rfl, ?_⟩) (by assumption) ?_
          rotate_left
          · (intro w hSw; (try dsimp only at hSw); go_simp; try with_reducible rfl)
          try simp only [Act.put, List.setIfInBounds_toArray, List.set_cons_zero, List.set_cons_succ]
          refine wpAnyH_take (i := 6) (oi := ({ dst := some 23, op := Go.Op.indexAddr 45 (Go.Operand.tmp 21) (Go.Operand.tmp 22), type := 0, pos := "law.go:39", after := #[{ on := 4, ground := Go.Ground.data }, { on := 5, ground := Go.Ground.data }], guard := none } : Oper)) (v := ?_) rfl (by kernel_rfl) (by kernel_rfl) (by kernel_rfl) (fun _ _ _ h => h) (Or.inl ⟨by rfl, ?_⟩) (by assumption) ?_
          rotate_left
          · (intro w hSw; (try dsimp only at hSw); go_simp; try with_reducible rfl)
          try simp only [Act.put, List.setIfInBounds_toArray, List.set_cons_zero, List.set_cons_succ]
          refine wpAnyH_take (i := 7) (oi := ({ dst := some 24, op := Go.Op.load 37 (Go.Operand.tmp 23), type := 37, pos := "law.go:39", after := #[{ on := 6, ground := Go.Ground.data }], guard := none } : Oper)) (v := .agg (List.toArray (bs y))) rfl (by kernel_rfl) (by kernel_rfl) (by kernel_rfl) (fun _ _ _ h => h) (yieldsIf_load_mid (by rfl) _ _ rfl _ _ rfl (bs y) _ (fun w hSw => (rangeAt_keep ry hSw (by simp))) Try.underlying37 rfl (hi37 hy32)) (by assumption) ?_
          try simp only [Act.put, List.setIfInBounds_toArray, List.set_cons_zero, List.set_cons_succ]
          refine wpAnyH_take (i := 8) (oi := ({ dst := some 25, op := Go.Op.binOp Go.BinOp.neq 37 (Go.Operand.tmp 20) (Go.Operand.tmp 24) 37, type := 4, pos := "law.go:39", after := #[{ on := 3, ground := Go.Ground.data }, { on := 7, ground := Go.Ground.data }], guard := none } : Oper)) (v := ?_) rfl (by kernel_rfl) (by kernel_rfl) (by kernel_rfl) (fun _ _ _ h => h) (Or.inl ⟨by rfl, ?_⟩) (by assumption) ?_
          rotate_left
          · (intro w hSw; (try dsimp only at hSw); go_simp; try with_reducible rfl)
          try simp only [Act.put, List.setIfInBounds_toArray, List.set_cons_zero, List.set_cons_succ]
          refine wpAnyH_done (by kernel_rfl) ?_ _
          refine NoPanic.normal ?_
          go_wp2_with fail; refine ⟨⟨i + 1, by omega, by go_num, Lib.hid (by rw [List.take_add_one, List.take_add_one, HT.out, HEX.out, HEY.out, HXY.out]), kk.trans' (by assumption)⟩, by simp [intOf]; omega⟩
        · have t1 : (x == y) = false := by simpa using hxy
          have HXY := Lib.hid hxy
          clear hxy
          go_wp2_with fail
          refine wp_region_noPanic ?_
          refine wp_region_held_drew (S := fun W => Keep [] wr W) (by kernel_rfl) ?_ (fun hHeld0 => ?_)
          · (try dsimp only); exact (Keep.refl [] _).drew
          refine wpAnyH_take (i := 0) (oi := ({ dst := some 17, op := Go.Op.move (Go.Operand.tmp 0), type := 45, pos := "law.go:39", after := #[], guard := none } : Oper)) (v := ?_) rfl (by kernel_rfl) (by kernel_rfl) (by kernel_rfl) (fun _ _ _ h => h) (Or.inl ⟨by rfl, ?_⟩) (by assumption) ?_
          rotate_left
          · (intro w hSw; (try dsimp only at hSw); go_simp; try with_reducible rfl)
          try simp only [Act.put, List.setIfInBounds_toArray, List.set_cons_zero, List.set_cons_succ]
          refine wpAnyH_take (i := 1) (oi := ({ dst := some 18, op := Go.Op.move (Go.Operand.tmp 5), type := 3, pos := "law.go:39", after := #[], guard := none } : Oper)) (v := ?_) rfl (by kernel_rfl) (by kernel_rfl) (by kernel_rfl) (fun _ _ _ h => h) (Or.inl ⟨by rfl, ?_⟩) (by assumption) ?_
          rotate_left
          · (intro w hSw; (try dsimp only at hSw); go_simp; try with_reducible rfl)
          try simp only [Act.put, List.setIfInBounds_toArray, List.set_cons_zero, List.set_cons_succ]
          refine wpAnyH_take (i := 2) (oi := ({ dst := some 19, op := Go.Op.indexAddr 45 (Go.Operand.tmp 17) (Go.Operand.tmp 18), type := 0, pos := "law.go:39", after := #[{ on := 0, ground := Go.Ground.data }, { on := 1, ground := Go.Ground.data }], guard := none } : Oper)) (v := ?_) rfl (by kernel_rfl) (by kernel_rfl) (by kernel_rfl) (fun _ _ _ h => h) (Or.inl ⟨by rfl, ?_⟩) (by assumption) ?_
          rotate_left
          · (intro w hSw; (try dsimp only at hSw); go_simp; try with_reducible rfl)
          try simp only [Act.put, List.setIfInBounds_toArray, List.set_cons_zero, List.set_cons_succ]
          refine wpAnyH_take (i := 3) (oi := ({ dst := some 20, op := Go.Op.load 37 (Go.Operand.tmp 19), type := 37, pos := "law.go:39", after := #[{ on := 2, ground := Go.Ground.data }], guard := none } : Oper)) (v := .agg (List.toArray (bs x))) rfl (by kernel_rfl) (by kernel_rfl) (by kernel_rfl) (fun _ _ _ h => h) (yieldsIf_load_mid (by rfl) _ _ rfl _ _ rfl (bs x) _ (fun w hSw => (rangeAt_keep rx hSw (by simp))) Try.underlying37 rfl (hi37 hx32)) (by assumption) ?_
          try simp only [Act.put, List.setIfInBounds_toArray, List.set_cons_zero, List.set_cons_succ]
          refine wpAnyH_take (i := 4) (oi := ({ dst := some 21, op := Go.Op.move (Go.Operand.tmp 1), type := 45, pos := "law.go:39", after := #[], guard := none } : Oper)) (v := ?_) rfl (by kernel_rfl) (by kernel_rfl) (by kernel_rfl) (fun _ _ _ h => h) (Or.inl ⟨by rfl, ?_⟩) (by assumption) ?_
          rotate_left
          · (intro w hSw; (try dsimp only at hSw); go_simp; try with_reducible rfl)
          try simp only [Act.put, List.setIfInBounds_toArray, List.set_cons_zero, List.set_cons_succ]
          refine wpAnyH_take (i := 5) (oi := ({ dst := some 22, op := Go.Op.move (Go.Operand.tmp 5), type := 3, pos := "law.go:39", after := #[], guard := none } : Oper)) (v := ?_) rfl (by kernel_rfl) (by kernel_rfl) (by kernel_rfl) (fun _ _ _ h => h) (Or.inl ⟨by rfl, ?_⟩) (by assumption) ?_
          rotate_left
          · (intro w hSw; (try dsimp only at hSw); go_simp; try with_reducible rfl)
          try simp only [Act.put, List.setIfInBounds_toArray, List.set_cons_zero, List.set_cons_succ]
          refine wpAnyH_take (i := 6) (oi := ({ dst := some 23, op := Go.Op.indexAddr 45 (Go.Operand.tmp 21) (Go.Operand.tmp 22), type := 0, pos := "law.go:39", after := #[{ on := 4, ground := Go.Ground.data }, { on := 5, ground := Go.Ground.data }], guard := none } : Oper)) (v := ?_) rfl (by kernel_rfl) (by kernel_rfl) (by kernel_rfl) (fun _ _ _ h => h) (Or.inl ⟨by rfl, ?_⟩) (by assumption) ?_
          rotate_left
          · (intro w hSw; (try dsimp only at hSw); go_simp; try with_reducible rfl)
          try simp only [Act.put, List.setIfInBounds_toArray, List.set_cons_zero, List.set_cons_succ]
          refine wpAnyH_take (i := 7) (oi := ({ dst := some 24, op := Go.Op.load 37 (Go.Operand.tmp 23), type := 37, pos := "law.go:39", after := #[{ on := 6, ground := Go.Ground.data }], guard := none } : Oper)) (v := .agg (List.toArray (bs y))) rfl (by kernel_rfl) (by kernel_rfl) (by kernel_rfl) (fun _ _ _ h => h) (yieldsIf_load_mid (by rfl) _ _ rfl _ _ rfl (bs y) _ (fun w hSw => (rangeAt_keep ry hSw (by simp))) Try.underlying37 rfl (hi37 hy32)) (by assumption) ?_
          try simp only [Act.put, List.setIfInBounds_toArray, List.set_cons_zero, List.set_cons_succ]
          refine wpAnyH_take (i := 8) (oi := ({ dst := some 25, op := Go.Op.binOp Go.BinOp.neq 37 (Go.Operand.tmp 20) (Go.Operand.tmp 24) 37, type := 4, pos := "law.go:39", after := #[{ on := 3, ground := Go.Ground.data }, { on := 7, ground := Go.Ground.data }], guard := none } : Oper)) (v := ?_) rfl (by kernel_rfl) (by kernel_rfl) (by kernel_rfl) (fun _ _ _ h => h) (Or.inl ⟨by rfl, ?_⟩) (by assumption) ?_
          rotate_left
          · (intro w hSw; (try dsimp only at hSw); go_simp; try with_reducible rfl)
          try simp only [Act.put, List.setIfInBounds_toArray, List.set_cons_zero, List.set_cons_succ]
          refine wpAnyH_done (by kernel_rfl) ?_ _
          refine NoPanic.normal ?_
          go_wp2_with fail; go_returns; exact ⟨by rw [decide_eq_false (fun e => HXY.out (by have h1 := HEX.out; have h2 := HEY.out; rw [e, h2] at h1; exact (Option.some.inj h1).symm))]; rfl, kk.trans' (by assumption)⟩
      · have e : i = n := by omega
        have HE := Lib.hid e
        clear e
        go_wp2_with fail
        go_returns
        refine ⟨?_, kk⟩
        have := HT.out
        rw [List.take_of_length_le (by rw [HX.out, HE.out]; exact Nat.le_refl _), List.take_of_length_le (by rw [HY.out, HE.out]; exact Nat.le_refl _)] at this
        rw [decide_eq_true this]
        rfl
  · have q : ¬ (n : Int) = m := by omega
    have q2 : ((n : Int) == m) = false := by simp; omega
    have HNM := Lib.hid hnm
    clear hnm hx hy
    go_enter Try.func27, Try.ntmps27
    go_wp2_with fail
    go_returns
    exact ⟨by rw [decide_eq_false (fun e => HNM.out (by rw [← HX.out, ← HY.out, e]))]; rfl, Keep.refl _ _⟩
end Go.Proofs.Ytjdkeabimcajlaa

/- Join of the law. -/
import Derived.Test.YtjdkeabimcajlaaJo
set_option linter.unusedVariables false
set_option linter.unusedSimpArgs false
namespace Go.Proofs.Ytjdkeabimcajlaa
open Go.RowKit
attribute [local go_sem ↓] Go.wp_at_zero Go.wp_at_succ eql_res

theorem joinO_take {how : Int} {x : Res} {L M : List Res} (h : M = [] ∨ ∃ y M', M = y :: M' ∧ Lib.compareBytes x.act y.act < 0) : joinO how (x :: L) M = x :: joinO how L M ∧ joinK (x :: L) M = joinK L M := by
  rcases h with rfl | ⟨y, M', rfl, hc⟩
  · rw [joinO_end, joinO_end, joinK_end, joinK_end]; exact ⟨rfl, rfl⟩
  · exact ⟨joinO_lt hc, joinK_lt hc⟩
theorem joinO_give {how : Int} {y : Res} {L M : List Res} (h : L = [] ∨ ∃ x L', L = x :: L' ∧ 0 < Lib.compareBytes x.act y.act) : joinO how L (y :: M) = y :: joinO how L M ∧ joinK L (y :: M) = joinK L M := by
  rcases h with rfl | ⟨x, L', rfl, hc⟩
  · rw [joinO_nil, joinO_nil, joinK_nil, joinK_nil]; exact ⟨rfl, rfl⟩
  · have t := cmp_turn x.act y.act
    exact ⟨joinO_gt (by omega) (by omega), joinK_gt (by omega) (by omega)⟩
theorem joinO_both {how : Int} {x y : Res} {L M : List Res} (h : Lib.compareBytes x.act y.act = 0) : joinO how (x :: L) (y :: M) = pickR how x y :: joinO how L M ∧ joinK (x :: L) (y :: M) = (if x = y then [] else [x.act]) ++ joinK L M := by
  have t := cmp_turn x.act y.act
  exact ⟨joinO_eq (by omega) (by omega), joinK_eq (by omega) (by omega)⟩
theorem drop_at {l : List Res} {i : Nat} {x : Res} (h : l[i]? = some x) : l.drop i = x :: l.drop (i + 1) := by
  obtain ⟨hi, e⟩ := List.getElem?_eq_some_iff.1 h
  rw [List.drop_eq_getElem_cons hi, e]

/-- What holds whenever the two rests are looked at. -/
def JR (w : World) (how : Int) (l m : List Res) (n p : Nat) (vo vk vi vj : Value) (wr : World) : Prop :=
  ∃ (i j : Nat) (O : List Res) (K : List (List UInt8)) (ao ak : Option Addr) (nO co nK ck : Nat), i ≤ n ∧ j ≤ p ∧ vo = .slice ao nO co ∧ vk = .slice ak nK ck ∧ vi = .int .i64 (i : Nat) ∧ vj = .int .i64 (j : Nat) ∧ JS w O K (.slice ao nO co) (.slice ak nK ck) nO nK wr ∧
    O ++ joinO how (l.drop i) (m.drop j) = joinO how l m ∧ K ++ joinK (l.drop i) (m.drop j) = joinK l m ∧ nO ≤ i + j ∧ nK ≤ i

set_option maxHeartbeats 12000000 in
set_option maxRecDepth 100000 in
theorem refJoin_any (a b : Option Addr) (n c p d : Nat) (l m : List Res) (how : Int) (w : World) (hl : RsIn w a n c l) (hm : RsIn w b p d m) :
    Calls Try.prog 26 #[.slice a n c, .slice b p d, .int .i64 how] w (GiveJ w (joinT how l m) (joinI how l m) (joinC how l m)) := by
  by_cases hh : knownHow how
  case neg =>
    obtain ⟨g1, g2, g3⟩ := join_how (l := l) (m := m) hh
    rw [g1, g2, g3]
    unfold knownHow at hh
    clear g1 g2 g3
    by_cases h1 : how < 1
    · clear hh
      go_enter Try.func26, Try.ntmps26
      go_wp2_with fail
      go_returns
      exact GiveJ.none (Keep.refl _ _)
    · have h3 : 3 < how := by omega
      clear hh
      go_enter Try.func26, Try.ntmps26
      go_wp2_with fail
      go_returns
      exact GiveJ.none (Keep.refl _ _)
  have HK := Lib.hid hh
  have w1 : ¬ how < 1 := by unfold knownHow at hh; omega
  have w3 : ¬ 3 < how := by unfold knownHow at hh; omega
  clear hh
  by_cases hv : validR l = true ∧ validR m = true
  case neg =>
    obtain ⟨g1, g2, g3⟩ := join_bad HK.out hv
    rw [g1, g2, g3]
    obtain ⟨b1, hb1⟩ : ∃ b, validR l = b := ⟨_, rfl⟩
    obtain ⟨b2, hb2⟩ : ∃ b, validR m = b := ⟨_, rfl⟩
    have HB := Lib.hid (And.intro hb1 hb2)
    have hbb : b1 = false ∨ (b1 = true ∧ b2 = false) := by
      cases b1 with
      | false => exact Or.inl rfl
      | true => cases b2 with | false => exact Or.inr ⟨rfl, rfl⟩ | true => exact absurd ⟨hb1, hb2⟩ hv
    clear g1 g2 g3 hb1 hb2 hv
    rcases hbb with rfl | ⟨rfl, rfl⟩
    all_goals (
      go_enter Try.func26, Try.ntmps26
      go_upto_region 4 with (first | (go_at_call 18; refine (refValid_any a n c l _ hl).mono ?_; rintro e w5 ⟨rfl, k5⟩; rw [HB.out.1]; have hm1 := hm.keep k5 (by simp)) | fail)
      go_wp2_with (first | (go_at_call 18; refine (refValid_any b p d m _ hm1).mono ?_; rintro e w6 ⟨rfl, k6⟩; rw [HB.out.2]) | fail)
      go_returns
      exact GiveJ.none (k5.trans' k6))
  obtain ⟨hv1, hv2⟩ := hv
  have HV := Lib.hid hv1
  have HV2 := Lib.hid hv2
  obtain ⟨l32, lok⟩ : l.length ≤ 32 ∧ okTo l l.length = true := by simpa [validR] using hv1
  obtain ⟨m32, mok⟩ : m.length ≤ 32 ∧ okTo m m.length = true := by simpa [validR] using hv2
  have hll := hl.hlen
  have hml := hm.hlen
  have n32 : n ≤ 32 := by omega
  have p32 : p ≤ 32 := by omega
  have HLL := Lib.hid (And.intro hll hml)
  clear hv1 hv2 l32 lok m32 mok hll hml
  obtain ⟨N, hN, hso⟩ := size39
  have HN := Lib.hid hN
  clear hN
  go_enter Try.func26, Try.ntmps26
  go_upto_region 4 with (first | (go_at_call 18; refine (refValid_any a n c l _ hl).mono ?_; rintro e w5 ⟨rfl, k5⟩; rw [HV.out]; have hm1 := hm.keep k5 (by simp)) | fail)
  go_upto_region 7 with (first | (go_at_call 18; refine (refValid_any b p d m _ hm1).mono ?_; rintro e w6 ⟨rfl, k6⟩; rw [HV2.out]) | fail)
  have k56 := k5.trans' k6
  clear hm1 k5 k6
  go_wp2_with fail
  go_loopw [11, 12, 13, 14] (fun v0 v1 v2 v3 wr => JR w how l m n p v0 v1 v2 v3 wr) (fun _ _ v2 v3 _ => (n - (intOf v2).toNat) + (p - (intOf v3).toNat))
  case atStart => exact ⟨0, 0, [], [], none, none, 0, 0, 0, 0, by omega, by omega, rfl, rfl, rfl, rfl, ⟨rfl, rfl, Sl.nil _ _ _, Sl.nil _ _ _, by intro b hb; simp [blks, Value.ownBlock] at hb, by intro b hb; simp [blks, Value.ownBlock] at hb, by intro b hb; simp [blks, Value.ownBlock] at hb, k56⟩, by simp, by simp, by omega, by omega⟩
  case round =>
    clear k56
    obtain ⟨i, j, O, K, ao, ak, nO, co, nK, ck, hi, hj, rfl, rfl, rfl, rfl, js, hJ1, hJ2, hb1, hb2⟩ := hrel
    have HJ := Lib.hid (And.intro hJ1 hJ2)
    clear hJ1 hJ2
    have i0 : (0 : Int) ≤ i := by omega
    have j0 : (0 : Int) ≤ j := by omega
    by_cases hin : i < n
    · obtain ⟨x, b0, o0, ex, rfl, rx0⟩ := hl.at hin
      have hdx := drop_at ex
      have i1 : (i : Int) < n := by omega
      have i2 : ((i : Int) == n) = false := by simp; omega
      rw [HN.out] at rx0
      have rx := rangeAt_keep rx0 js.k (by simp)
      by_cases hjp : j < p
      · obtain ⟨y, b1, o1, ey, rfl, ry0⟩ := hm.at hjp
        have hdy := drop_at ey
        have j1 : (j : Int) < p := by omega
        have j2 : ((j : Int) == p) = false := by simp; omega
        rw [HN.out] at ry0
        have ry := rangeAt_keep ry0 js.k (by simp)
        have HD := Lib.hid (And.intro hdx hdy)
        obtain ⟨CC, hCC⟩ : ∃ CC, Lib.compareBytes x.act y.act = CC := ⟨_, rfl⟩
        have ORD := Lib.hid (fun W => order_any x.act y.act W x.la y.la)
        rw [hCC] at ORD
        have HC := Lib.hid hCC
        clear hdx hdy ex ey hCC
        have HDX := Lib.hid HD.out.1
        have HDY := Lib.hid HD.out.2
        by_cases c1 : CC < 0
        · have c2 := Lib.hid c1
          go_upto_region 12 with fail
          refine wp_region_noPanic ?_
          refine wp_region_held_drew (S := fun W => Keep [] wr W) (by kernel_rfl) ?_ (fun hHeld0 => ?_)
          · (try dsimp only); first | exact (Keep.refl [] _).drew | exact (by assumption : Keep [] wr _).drew | exact Keep.trans' (by assumption) hk
          refine wpAnyH_take (i := 0) (oi := ({ dst := some 42, op := Go.Op.move (Go.Operand.tmp 14), type := 3, pos := "freightref8.go:140", after := #[], guard := none } : Oper)) (v := ?_) rfl (by kernel_rfl) (by kernel_rfl) (by kernel_rfl) (fun _ _ _ h => h) (Or.inl ⟨by rfl, ?_⟩) (by assumption) ?_
          rotate_left
          · (intro w hSw; (try dsimp only at hSw); go_simp; try with_reducible rfl)
          try simp only [Act.put, List.setIfInBounds_toArray, List.set_cons_zero, List.set_cons_succ]
          refine wpAnyH_take (i := 1) (oi := ({ dst := some 43, op := Go.Op.move (Go.Operand.tmp 1), type := 22, pos := "freightref8.go:140", after := #[], guard := none } : Oper)) (v := ?_) rfl (by kernel_rfl) (by kernel_rfl) (by kernel_rfl) (fun _ _ _ h => h) (Or.inl ⟨by rfl, ?_⟩) (by assumption) ?_
          rotate_left
          · (intro w hSw; (try dsimp only at hSw); go_simp; try with_reducible rfl)
          try simp only [Act.put, List.setIfInBounds_toArray, List.set_cons_zero, List.set_cons_succ]
          refine wpAnyH_take (i := 2) (oi := ({ dst := some 44, op := Go.Op.call { callee := Go.Callee.builtin Go.Builtin.len, args := #[Go.Operand.tmp 43], argTypes := #[22] }, type := 3, pos := "freightref8.go:140", after := #[{ on := 1, ground := Go.Ground.data }], guard := none } : Oper)) (v := ?_) rfl (by kernel_rfl) (by kernel_rfl) (by kernel_rfl) (fun _ _ _ h => h) (Or.inl ⟨by rfl, ?_⟩) (by assumption) ?_
          rotate_left
          · (intro w hSw; (try dsimp only at hSw); go_simp; try with_reducible rfl)
          try simp only [Act.put, List.setIfInBounds_toArray, List.set_cons_zero, List.set_cons_succ]
          refine wpAnyH_take (i := 3) (oi := ({ dst := some 45, op := Go.Op.binOp Go.BinOp.eql 3 (Go.Operand.tmp 42) (Go.Operand.tmp 44) 3, type := 4, pos := "freightref8.go:140", after := #[{ on := 0, ground := Go.Ground.data }, { on := 2, ground := Go.Ground.data }], guard := none } : Oper)) (v := ?_) rfl (by kernel_rfl) (by kernel_rfl) (by kernel_rfl) (fun _ _ _ h => h) (Or.inl ⟨by rfl, ?_⟩) (by assumption) ?_
          rotate_left
          · (intro w hSw; (try dsimp only at hSw); go_simp; try with_reducible rfl)
          try simp only [Act.put, List.setIfInBounds_toArray, List.set_cons_zero, List.set_cons_succ]
          refine wpAnyH_take (i := 4) (oi := ({ dst := some 46, op := Go.Op.move (Go.Operand.tmp 45), type := 4, pos := "freightref8.go:140", after := #[{ on := 3, ground := Go.Ground.data }], guard := none } : Oper)) (v := ?_) rfl (by kernel_rfl) (by kernel_rfl) (by kernel_rfl) (fun _ _ _ h => h) (Or.inl ⟨by rfl, ?_⟩) (by assumption) ?_
          rotate_left
          · (intro w hSw; (try dsimp only at hSw); go_simp; try with_reducible rfl)
          try simp only [Act.put, List.setIfInBounds_toArray, List.set_cons_zero, List.set_cons_succ]
          refine wpAnyH_take (i := 5) (oi := ({ dst := some 47, op := Go.Op.move (Go.Operand.tmp 13), type := 3, pos := "freightref8.go:140", after := #[{ on := 4, ground := Go.Ground.guard }], guard := some (4, false) } : Oper)) (v := ?_) rfl (by kernel_rfl) (by kernel_rfl) (by kernel_rfl) (fun _ _ _ h => h) (Or.inl ⟨by rfl, ?_⟩) (by assumption) ?_
          rotate_left
          · (intro w hSw; (try dsimp only at hSw); go_simp; try with_reducible rfl)
          try simp only [Act.put, List.setIfInBounds_toArray, List.set_cons_zero, List.set_cons_succ]
          refine wpAnyH_take (i := 6) (oi := ({ dst := some 48, op := Go.Op.move (Go.Operand.tmp 0), type := 22, pos := "freightref8.go:140", after := #[{ on := 4, ground := Go.Ground.guard }], guard := some (4, false) } : Oper)) (v := ?_) rfl (by kernel_rfl) (by kernel_rfl) (by kernel_rfl) (fun _ _ _ h => h) (Or.inl ⟨by rfl, ?_⟩) (by assumption) ?_
          rotate_left
          · (intro w hSw; (try dsimp only at hSw); go_simp; try with_reducible rfl)
          try simp only [Act.put, List.setIfInBounds_toArray, List.set_cons_zero, List.set_cons_succ]
          refine wpAnyH_take (i := 7) (oi := ({ dst := some 49, op := Go.Op.call { callee := Go.Callee.builtin Go.Builtin.len, args := #[Go.Operand.tmp 48], argTypes := #[22] }, type := 3, pos := "freightref8.go:140", after := #[{ on := 6, ground := Go.Ground.data }, { on := 4, ground := Go.Ground.guard }], guard := some (4, false) } : Oper)) (v := ?_) rfl (by kernel_rfl) (by kernel_rfl) (by kernel_rfl) (fun _ _ _ h => h) (Or.inl ⟨by rfl, ?_⟩) (by assumption) ?_
          rotate_left
          · (intro w hSw; (try dsimp only at hSw); go_simp; try with_reducible rfl)
          try simp only [Act.put, List.setIfInBounds_toArray, List.set_cons_zero, List.set_cons_succ]
          refine wpAnyH_take (i := 8) (oi := ({ dst := some 50, op := Go.Op.binOp Go.BinOp.lss 3 (Go.Operand.tmp 47) (Go.Operand.tmp 49) 3, type := 4, pos := "freightref8.go:140", after := #[{ on := 5, ground := Go.Ground.data }, { on := 7, ground := Go.Ground.data }, { on := 4, ground := Go.Ground.guard }], guard := some (4, false) } : Oper)) (v := ?_) rfl (by kernel_rfl) (by kernel_rfl) (by kernel_rfl) (fun _ _ _ h => h) (Or.inl ⟨by rfl, ?_⟩) (by assumption) ?_
          rotate_left
          · (intro w hSw; (try dsimp only at hSw); go_simp; try with_reducible rfl)
          try simp only [Act.put, List.setIfInBounds_toArray, List.set_cons_zero, List.set_cons_succ]
          refine wpAnyH_take (i := 9) (oi := ({ dst := some 51, op := Go.Op.move (Go.Operand.tmp 50), type := 4, pos := "freightref8.go:140", after := #[{ on := 8, ground := Go.Ground.data }, { on := 4, ground := Go.Ground.chain }, { on := 4, ground := Go.Ground.guard }], guard := some (4, false) } : Oper)) (v := ?_) rfl (by kernel_rfl) (by kernel_rfl) (by kernel_rfl) (fun _ _ _ h => h) (Or.inl ⟨by rfl, ?_⟩) (by assumption) ?_
          rotate_left
          · (intro w hSw; (try dsimp only at hSw); go_simp; try with_reducible rfl)
          try simp only [Act.put, List.setIfInBounds_toArray, List.set_cons_zero, List.set_cons_succ]
          refine wpAnyH_take (i := 10) (oi := ({ dst := some 52, op := Go.Op.move (Go.Operand.tmp 0), type := 22, pos := "freightref8.go:140", after := #[{ on := 9, ground := Go.Ground.guard }], guard := some (9, true) } : Oper)) (v := ?_) rfl (by kernel_rfl) (by kernel_rfl) (by kernel_rfl) (fun _ _ _ h => h) (Or.inl ⟨by rfl, ?_⟩) (by assumption) ?_
          rotate_left
          · (intro w hSw; (try dsimp only at hSw); go_simp; try with_reducible rfl)
          try simp only [Act.put, List.setIfInBounds_toArray, List.set_cons_zero, List.set_cons_succ]
          refine wpAnyH_take (i := 11) (oi := ({ dst := some 53, op := Go.Op.move (Go.Operand.tmp 13), type := 3, pos := "freightref8.go:140", after := #[{ on := 9, ground := Go.Ground.guard }], guard := some (9, true) } : Oper)) (v := ?_) rfl (by kernel_rfl) (by kernel_rfl) (by kernel_rfl) (fun _ _ _ h => h) (Or.inl ⟨by rfl, ?_⟩) (by assumption) ?_
          rotate_left
          · (intro w hSw; (try dsimp only at hSw); go_simp; try with_reducible rfl)
          try simp only [Act.put, List.setIfInBounds_toArray, List.set_cons_zero, List.set_cons_succ]
          refine wpAnyH_take (i := 12) (oi := ({ dst := some 54, op := Go.Op.indexAddr 22 (Go.Operand.tmp 52) (Go.Operand.tmp 53), type := 0, pos := "freightref8.go:140", after := #[{ on := 10, ground := Go.Ground.data }, { on := 11, ground := Go.Ground.data }, { on := 9, ground := Go.Ground.guard }], guard := some (9, true) } : Oper)) (v := ?_) rfl (by kernel_rfl) (by kernel_rfl) (by kernel_rfl) (fun _ _ _ h => h) (Or.inl ⟨by rfl, ?_⟩) (by assumption) ?_
          rotate_left
          · (intro w hSw; (try dsimp only at hSw); go_simp; try with_reducible rfl)
          try simp only [Act.put, List.setIfInBounds_toArray, List.set_cons_zero, List.set_cons_succ]
          refine wpAnyH_take (i := 13) (oi := ({ dst := some 55, op := Go.Op.fieldAddr 39 (Go.Operand.tmp 54) 0, type := 0, pos := "freightref8.go:140", after := #[{ on := 12, ground := Go.Ground.data }, { on := 9, ground := Go.Ground.guard }], guard := some (9, true) } : Oper)) (v := ?_) rfl (by kernel_rfl) (by kernel_rfl) (by kernel_rfl) (fun _ _ _ h => h) (Or.inl ⟨by rfl, ?_⟩) (by assumption) ?_
          rotate_left
          · (intro w hSw; (try dsimp only at hSw); go_simp; try with_reducible rfl)
          try simp only [Act.put, List.setIfInBounds_toArray, List.set_cons_zero, List.set_cons_succ]
          refine wpAnyH_take (i := 14) (oi := ({ dst := some 56, op := Go.Op.load 37 (Go.Operand.tmp 55), type := 37, pos := "freightref8.go:140", after := #[{ on := 13, ground := Go.Ground.data }, { on := 9, ground := Go.Ground.guard }], guard := some (9, true) } : Oper)) (v := .agg (List.toArray (bs x.act))) rfl (by kernel_rfl) (by kernel_rfl) (by kernel_rfl) (fun _ _ _ h => h) (yieldsIf_load_mid (by rfl) _ _ rfl _ _ rfl (bs x.act) _ (fun w hSw => (rangeAt_act (rangeAt_keep rx hSw (by simp)))) Try.underlying37 rfl (hi37 x.la)) (by assumption) ?_
          try simp only [Act.put, List.setIfInBounds_toArray, List.set_cons_zero, List.set_cons_succ]
          refine wpAnyH_take (i := 15) (oi := ({ dst := some 57, op := Go.Op.move (Go.Operand.tmp 1), type := 22, pos := "freightref8.go:140", after := #[{ on := 9, ground := Go.Ground.guard }], guard := some (9, true) } : Oper)) (v := ?_) rfl (by kernel_rfl) (by kernel_rfl) (by kernel_rfl) (fun _ _ _ h => h) (Or.inl ⟨by rfl, ?_⟩) (by assumption) ?_
          rotate_left
          · (intro w hSw; (try dsimp only at hSw); go_simp; try with_reducible rfl)
          try simp only [Act.put, List.setIfInBounds_toArray, List.set_cons_zero, List.set_cons_succ]
          refine wpAnyH_take (i := 16) (oi := ({ dst := some 58, op := Go.Op.move (Go.Operand.tmp 14), type := 3, pos := "freightref8.go:140", after := #[{ on := 9, ground := Go.Ground.guard }], guard := some (9, true) } : Oper)) (v := ?_) rfl (by kernel_rfl) (by kernel_rfl) (by kernel_rfl) (fun _ _ _ h => h) (Or.inl ⟨by rfl, ?_⟩) (by assumption) ?_
          rotate_left
          · (intro w hSw; (try dsimp only at hSw); go_simp; try with_reducible rfl)
          try simp only [Act.put, List.setIfInBounds_toArray, List.set_cons_zero, List.set_cons_succ]
          refine wpAnyH_take (i := 17) (oi := ({ dst := some 59, op := Go.Op.indexAddr 22 (Go.Operand.tmp 57) (Go.Operand.tmp 58), type := 0, pos := "freightref8.go:140", after := #[{ on := 15, ground := Go.Ground.data }, { on := 16, ground := Go.Ground.data }, { on := 9, ground := Go.Ground.guard }], guard := some (9, true) } : Oper)) (v := ?_) rfl (by kernel_rfl) (by kernel_rfl) (by kernel_rfl) (fun _ _ _ h => h) (Or.inl ⟨by rfl, ?_⟩) (by assumption) ?_
          rotate_left
          · (intro w hSw; (try dsimp only at hSw); go_simp; try with_reducible rfl)
          try simp only [Act.put, List.setIfInBounds_toArray, List.set_cons_zero, List.set_cons_succ]
          refine wpAnyH_take (i := 18) (oi := ({ dst := some 60, op := Go.Op.fieldAddr 39 (Go.Operand.tmp 59) 0, type := 0, pos := "freightref8.go:140", after := #[{ on := 17, ground := Go.Ground.data }, { on := 9, ground := Go.Ground.guard }], guard := some (9, true) } : Oper)) (v := ?_) rfl (by kernel_rfl) (by kernel_rfl) (by kernel_rfl) (fun _ _ _ h => h) (Or.inl ⟨by rfl, ?_⟩) (by assumption) ?_
          rotate_left
          · (intro w hSw; (try dsimp only at hSw); go_simp; try with_reducible rfl)
          try simp only [Act.put, List.setIfInBounds_toArray, List.set_cons_zero, List.set_cons_succ]
          refine wpAnyH_take (i := 19) (oi := ({ dst := some 61, op := Go.Op.load 37 (Go.Operand.tmp 60), type := 37, pos := "freightref8.go:140", after := #[{ on := 18, ground := Go.Ground.data }, { on := 9, ground := Go.Ground.guard }], guard := some (9, true) } : Oper)) (v := .agg (List.toArray (bs y.act))) rfl (by kernel_rfl) (by kernel_rfl) (by kernel_rfl) (fun _ _ _ h => h) (yieldsIf_load_mid (by rfl) _ _ rfl _ _ rfl (bs y.act) _ (fun w hSw => (rangeAt_act (rangeAt_keep ry hSw (by simp)))) Try.underlying37 rfl (hi37 y.la)) (by assumption) ?_
          try simp only [Act.put, List.setIfInBounds_toArray, List.set_cons_zero, List.set_cons_succ]
          refine wpAnyH_ready (rs := [20]) (by kernel_rfl) (by simp) ?_
          refine (AllReadyH.cons (o := ({ dst := some 62, op := Go.Op.call { callee := Go.Callee.value (Go.Operand.func 44), args := #[Go.Operand.tmp 56, Go.Operand.tmp 61], argTypes := #[37, 37] }, type := 3, pos := "freightref8.go:140", after := #[{ on := 14, ground := Go.Ground.data }, { on := 19, ground := Go.Ground.data }, { on := 9, ground := Go.Ground.chain }, { on := 9, ground := Go.Ground.guard }], guard := some (9, true) } : Oper)) rfl (fun K hK => ?_) AllReadyH.nil)
          go_simp
          (refine (ORD.out _).mono ?_; rintro e w' ⟨rfl, hk⟩)
          go_wp2_with fail
          refine hK.out _ _ ?_ (fun hHeld1 => ?_)
          · (try dsimp only); first | exact (Keep.refl [] _).drew | exact (by assumption : Keep [] wr _).drew | exact Keep.trans' (by assumption) hk
          clear hK K
          try simp only [Act.put, List.setIfInBounds_toArray, List.set_cons_zero, List.set_cons_succ]
          refine wpAnyH_take (i := 21) (oi := ({ dst := some 63, op := Go.Op.binOp Go.BinOp.lss 3 (Go.Operand.tmp 62) (Go.Operand.const (Go.Value.int Go.IntKind.i64 0)) 3, type := 4, pos := "freightref8.go:140", after := #[{ on := 20, ground := Go.Ground.data }, { on := 9, ground := Go.Ground.guard }], guard := some (9, true) } : Oper)) (v := ?_) rfl (by kernel_rfl) (by kernel_rfl) (by kernel_rfl) (fun _ _ _ h => h) (Or.inl ⟨by rfl, ?_⟩) (by assumption) ?_
          rotate_left
          · (intro w hSw; (try dsimp only at hSw); go_simp; try with_reducible rfl)
          try simp only [Act.put, List.setIfInBounds_toArray, List.set_cons_zero, List.set_cons_succ]
          refine wpAnyH_take (i := 22) (oi := ({ dst := some 64, op := Go.Op.pick (Go.Operand.tmp 51) (Go.Operand.tmp 63) (Go.Operand.const (Go.Value.bool false)), type := 4, pos := "freightref8.go:140", after := #[{ on := 9, ground := Go.Ground.data }, { on := 21, ground := Go.Ground.data }, { on := 4, ground := Go.Ground.guard }], guard := some (4, false) } : Oper)) (v := ?_) rfl (by kernel_rfl) (by kernel_rfl) (by kernel_rfl) (fun _ _ _ h => h) (Or.inl ⟨by rfl, ?_⟩) (by assumption) ?_
          rotate_left
          · (intro w hSw; (try dsimp only at hSw); go_simp; try with_reducible rfl)
          try simp only [Act.put, List.setIfInBounds_toArray, List.set_cons_zero, List.set_cons_succ]
          refine wpAnyH_take (i := 23) (oi := ({ dst := some 65, op := Go.Op.pick (Go.Operand.tmp 46) (Go.Operand.const (Go.Value.bool true)) (Go.Operand.tmp 64), type := 4, pos := "freightref8.go:140", after := #[{ on := 4, ground := Go.Ground.data }, { on := 22, ground := Go.Ground.data }], guard := none } : Oper)) (v := ?_) rfl (by kernel_rfl) (by kernel_rfl) (by kernel_rfl) (fun _ _ _ h => h) (Or.inl ⟨by rfl, ?_⟩) (by assumption) ?_
          rotate_left
          · (intro w hSw; (try dsimp only at hSw); go_simp; try with_reducible rfl)
          try simp only [Act.put, List.setIfInBounds_toArray, List.set_cons_zero, List.set_cons_succ]
          refine wpAnyH_done (by kernel_rfl) ?_ _
          refine NoPanic.normal ?_
          have hR := (by assumption : Keep [] wr _)
          have jsQ := js.keep0 hR
          have rxQ := rangeAt_keep rx hR (by simp)
          go_wp2_with (first
            | (refine wpList_load_mid rfl 39 (.tmp 69) rfl _ _ rfl x.cells _ rxQ Try.underlying39 rfl (hi39 x) ?_)
            | (refine wpList_build1 rfl 22 39 (.tmp 70) rfl x.cells.toArray rfl (.agg Try.zeroCells39) 65 72 Try.underlying22 info39 (by simp [Res.len]) (by omega) (by omega) ?_)
            | (at_builtin; refine wpList_appendN rfl (.tmp 66) (.tmp 71) 22 rfl 39 (.agg Try.zeroCells39) 65 72 Try.underlying22 info39 zero39 (by omega) (.slice ao nO co) nO (cellsOf O) rfl (after_build jsQ.so).1 (some ⟨_, 0, none⟩) 1 1 x.cells rfl (res_len1 x) (by simp) (after_build jsQ.so).2.1 (Res.one x) (by simp only [maxLen]; omega) (by omega) ?_; intro a6 c6 w9 hs6 hk6 hf6)
            | fail)
          have jsF := (jsQ.keep0 (after_build jsQ.so (x := x)).2.2).out (Z := [x]) rfl (by rw [cellsOf_one]; exact hs6) hk6 hf6
          exact ⟨⟨i + 1, j, O ++ [x], K, _, _, _, _, _, _, by omega, by omega, rfl, rfl, by go_num, rfl, jsF, by rw [← HJ.out.1, HDX.out, (joinO_take (Or.inr ⟨y, _, HDY.out, by rw [HC.out]; exact c2.out⟩)).1, List.append_assoc]; rfl, by rw [← HJ.out.2, HDX.out, (joinO_take (how := how) (Or.inr ⟨y, _, HDY.out, by rw [HC.out]; exact c2.out⟩)).2], by omega, by omega⟩, by simp [intOf]; omega⟩

        · by_cases c3 : 0 < CC
          · have c4 := Lib.hid c3
            go_upto_region 12 with fail
            refine wp_region_noPanic ?_
            refine wp_region_held_drew (S := fun W => Keep [] wr W) (by kernel_rfl) ?_ (fun hHeld0 => ?_)
            · (try dsimp only); first | exact (Keep.refl [] _).drew | exact (by assumption : Keep [] wr _).drew | exact Keep.trans' (by assumption) hk
            refine wpAnyH_take (i := 0) (oi := ({ dst := some 42, op := Go.Op.move (Go.Operand.tmp 14), type := 3, pos := "freightref8.go:140", after := #[], guard := none } : Oper)) (v := ?_) rfl (by kernel_rfl) (by kernel_rfl) (by kernel_rfl) (fun _ _ _ h => h) (Or.inl ⟨by rfl, ?_⟩) (by assumption) ?_
            rotate_left
            · (intro w hSw; (try dsimp only at hSw); go_simp; try with_reducible rfl)
            try simp only [Act.put, List.setIfInBounds_toArray, List.set_cons_zero, List.set_cons_succ]
            refine wpAnyH_take (i := 1) (oi := ({ dst := some 43, op := Go.Op.move (Go.Operand.tmp 1), type := 22, pos := "freightref8.go:140", after := #[], guard := none } : Oper)) (v := ?_) rfl (by kernel_rfl) (by kernel_rfl) (by kernel_rfl) (fun _ _ _ h => h) (Or.inl ⟨by rfl, ?_⟩) (by assumption) ?_
            rotate_left
            · (intro w hSw; (try dsimp only at hSw); go_simp; try with_reducible rfl)
            try simp only [Act.put, List.setIfInBounds_toArray, List.set_cons_zero, List.set_cons_succ]
            refine wpAnyH_take (i := 2) (oi := ({ dst := some 44, op := Go.Op.call { callee := Go.Callee.builtin Go.Builtin.len, args := #[Go.Operand.tmp 43], argTypes := #[22] }, type := 3, pos := "freightref8.go:140", after := #[{ on := 1, ground := Go.Ground.data }], guard := none } : Oper)) (v := ?_) rfl (by kernel_rfl) (by kernel_rfl) (by kernel_rfl) (fun _ _ _ h => h) (Or.inl ⟨by rfl, ?_⟩) (by assumption) ?_
            rotate_left
            · (intro w hSw; (try dsimp only at hSw); go_simp; try with_reducible rfl)
            try simp only [Act.put, List.setIfInBounds_toArray, List.set_cons_zero, List.set_cons_succ]
            refine wpAnyH_take (i := 3) (oi := ({ dst := some 45, op := Go.Op.binOp Go.BinOp.eql 3 (Go.Operand.tmp 42) (Go.Operand.tmp 44) 3, type := 4, pos := "freightref8.go:140", after := #[{ on := 0, ground := Go.Ground.data }, { on := 2, ground := Go.Ground.data }], guard := none } : Oper)) (v := ?_) rfl (by kernel_rfl) (by kernel_rfl) (by kernel_rfl) (fun _ _ _ h => h) (Or.inl ⟨by rfl, ?_⟩) (by assumption) ?_
            rotate_left
            · (intro w hSw; (try dsimp only at hSw); go_simp; try with_reducible rfl)
            try simp only [Act.put, List.setIfInBounds_toArray, List.set_cons_zero, List.set_cons_succ]
            refine wpAnyH_take (i := 4) (oi := ({ dst := some 46, op := Go.Op.move (Go.Operand.tmp 45), type := 4, pos := "freightref8.go:140", after := #[{ on := 3, ground := Go.Ground.data }], guard := none } : Oper)) (v := ?_) rfl (by kernel_rfl) (by kernel_rfl) (by kernel_rfl) (fun _ _ _ h => h) (Or.inl ⟨by rfl, ?_⟩) (by assumption) ?_
            rotate_left
            · (intro w hSw; (try dsimp only at hSw); go_simp; try with_reducible rfl)
            try simp only [Act.put, List.setIfInBounds_toArray, List.set_cons_zero, List.set_cons_succ]
            refine wpAnyH_take (i := 5) (oi := ({ dst := some 47, op := Go.Op.move (Go.Operand.tmp 13), type := 3, pos := "freightref8.go:140", after := #[{ on := 4, ground := Go.Ground.guard }], guard := some (4, false) } : Oper)) (v := ?_) rfl (by kernel_rfl) (by kernel_rfl) (by kernel_rfl) (fun _ _ _ h => h) (Or.inl ⟨by rfl, ?_⟩) (by assumption) ?_
            rotate_left
            · (intro w hSw; (try dsimp only at hSw); go_simp; try with_reducible rfl)
            try simp only [Act.put, List.setIfInBounds_toArray, List.set_cons_zero, List.set_cons_succ]
            refine wpAnyH_take (i := 6) (oi := ({ dst := some 48, op := Go.Op.move (Go.Operand.tmp 0), type := 22, pos := "freightref8.go:140", after := #[{ on := 4, ground := Go.Ground.guard }], guard := some (4, false) } : Oper)) (v := ?_) rfl (by kernel_rfl) (by kernel_rfl) (by kernel_rfl) (fun _ _ _ h => h) (Or.inl ⟨by rfl, ?_⟩) (by assumption) ?_
            rotate_left
            · (intro w hSw; (try dsimp only at hSw); go_simp; try with_reducible rfl)
            try simp only [Act.put, List.setIfInBounds_toArray, List.set_cons_zero, List.set_cons_succ]
            refine wpAnyH_take (i := 7) (oi := ({ dst := some 49, op := Go.Op.call { callee := Go.Callee.builtin Go.Builtin.len, args := #[Go.Operand.tmp 48], argTypes := #[22] }, type := 3, pos := "freightref8.go:140", after := #[{ on := 6, ground := Go.Ground.data }, { on := 4, ground := Go.Ground.guard }], guard := some (4, false) } : Oper)) (v := ?_) rfl (by kernel_rfl) (by kernel_rfl) (by kernel_rfl) (fun _ _ _ h => h) (Or.inl ⟨by rfl, ?_⟩) (by assumption) ?_
            rotate_left
            · (intro w hSw; (try dsimp only at hSw); go_simp; try with_reducible rfl)
            try simp only [Act.put, List.setIfInBounds_toArray, List.set_cons_zero, List.set_cons_succ]
            refine wpAnyH_take (i := 8) (oi := ({ dst := some 50, op := Go.Op.binOp Go.BinOp.lss 3 (Go.Operand.tmp 47) (Go.Operand.tmp 49) 3, type := 4, pos := "freightref8.go:140", after := #[{ on := 5, ground := Go.Ground.data }, { on := 7, ground := Go.Ground.data }, { on := 4, ground := Go.Ground.guard }], guard := some (4, false) } : Oper)) (v := ?_) rfl (by kernel_rfl) (by kernel_rfl) (by kernel_rfl) (fun _ _ _ h => h) (Or.inl ⟨by rfl, ?_⟩) (by assumption) ?_
            rotate_left
            · (intro w hSw; (try dsimp only at hSw); go_simp; try with_reducible rfl)
            try simp only [Act.put, List.setIfInBounds_toArray, List.set_cons_zero, List.set_cons_succ]
            refine wpAnyH_take (i := 9) (oi := ({ dst := some 51, op := Go.Op.move (Go.Operand.tmp 50), type := 4, pos := "freightref8.go:140", after := #[{ on := 8, ground := Go.Ground.data }, { on := 4, ground := Go.Ground.chain }, { on := 4, ground := Go.Ground.guard }], guard := some (4, false) } : Oper)) (v := ?_) rfl (by kernel_rfl) (by kernel_rfl) (by kernel_rfl) (fun _ _ _ h => h) (Or.inl ⟨by rfl, ?_⟩) (by assumption) ?_
            rotate_left
            · (intro w hSw; (try dsimp only at hSw); go_simp; try with_reducible rfl)
            try simp only [Act.put, List.setIfInBounds_toArray, List.set_cons_zero, List.set_cons_succ]
            refine wpAnyH_take (i := 10) (oi := ({ dst := some 52, op := Go.Op.move (Go.Operand.tmp 0), type := 22, pos := "freightref8.go:140", after := #[{ on := 9, ground := Go.Ground.guard }], guard := some (9, true) } : Oper)) (v := ?_) rfl (by kernel_rfl) (by kernel_rfl) (by kernel_rfl) (fun _ _ _ h => h) (Or.inl ⟨by rfl, ?_⟩) (by assumption) ?_
            rotate_left
            · (intro w hSw; (try dsimp only at hSw); go_simp; try with_reducible rfl)
            try simp only [Act.put, List.setIfInBounds_toArray, List.set_cons_zero, List.set_cons_succ]
            refine wpAnyH_take (i := 11) (oi := ({ dst := some 53, op := Go.Op.move (Go.Operand.tmp 13), type := 3, pos := "freightref8.go:140", after := #[{ on := 9, ground := Go.Ground.guard }], guard := some (9, true) } : Oper)) (v := ?_) rfl (by kernel_rfl) (by kernel_rfl) (by kernel_rfl) (fun _ _ _ h => h) (Or.inl ⟨by rfl, ?_⟩) (by assumption) ?_
            rotate_left
            · (intro w hSw; (try dsimp only at hSw); go_simp; try with_reducible rfl)
            try simp only [Act.put, List.setIfInBounds_toArray, List.set_cons_zero, List.set_cons_succ]
            refine wpAnyH_take (i := 12) (oi := ({ dst := some 54, op := Go.Op.indexAddr 22 (Go.Operand.tmp 52) (Go.Operand.tmp 53), type := 0, pos := "freightref8.go:140", after := #[{ on := 10, ground := Go.Ground.data }, { on := 11, ground := Go.Ground.data }, { on := 9, ground := Go.Ground.guard }], guard := some (9, true) } : Oper)) (v := ?_) rfl (by kernel_rfl) (by kernel_rfl) (by kernel_rfl) (fun _ _ _ h => h) (Or.inl ⟨by rfl, ?_⟩) (by assumption) ?_
            rotate_left
            · (intro w hSw; (try dsimp only at hSw); go_simp; try with_reducible rfl)
            try simp only [Act.put, List.setIfInBounds_toArray, List.set_cons_zero, List.set_cons_succ]
            refine wpAnyH_take (i := 13) (oi := ({ dst := some 55, op := Go.Op.fieldAddr 39 (Go.Operand.tmp 54) 0, type := 0, pos := "freightref8.go:140", after := #[{ on := 12, ground := Go.Ground.data }, { on := 9, ground := Go.Ground.guard }], guard := some (9, true) } : Oper)) (v := ?_) rfl (by kernel_rfl) (by kernel_rfl) (by kernel_rfl) (fun _ _ _ h => h) (Or.inl ⟨by rfl, ?_⟩) (by assumption) ?_
            rotate_left
            · (intro w hSw; (try dsimp only at hSw); go_simp; try with_reducible rfl)
            try simp only [Act.put, List.setIfInBounds_toArray, List.set_cons_zero, List.set_cons_succ]
            refine wpAnyH_take (i := 14) (oi := ({ dst := some 56, op := Go.Op.load 37 (Go.Operand.tmp 55), type := 37, pos := "freightref8.go:140", after := #[{ on := 13, ground := Go.Ground.data }, { on := 9, ground := Go.Ground.guard }], guard := some (9, true) } : Oper)) (v := .agg (List.toArray (bs x.act))) rfl (by kernel_rfl) (by kernel_rfl) (by kernel_rfl) (fun _ _ _ h => h) (yieldsIf_load_mid (by rfl) _ _ rfl _ _ rfl (bs x.act) _ (fun w hSw => (rangeAt_act (rangeAt_keep rx hSw (by simp)))) Try.underlying37 rfl (hi37 x.la)) (by assumption) ?_
            try simp only [Act.put, List.setIfInBounds_toArray, List.set_cons_zero, List.set_cons_succ]
            refine wpAnyH_take (i := 15) (oi := ({ dst := some 57, op := Go.Op.move (Go.Operand.tmp 1), type := 22, pos := "freightref8.go:140", after := #[{ on := 9, ground := Go.Ground.guard }], guard := some (9, true) } : Oper)) (v := ?_) rfl (by kernel_rfl) (by kernel_rfl) (by kernel_rfl) (fun _ _ _ h => h) (Or.inl ⟨by rfl, ?_⟩) (by assumption) ?_
            rotate_left
            · (intro w hSw; (try dsimp only at hSw); go_simp; try with_reducible rfl)
            try simp only [Act.put, List.setIfInBounds_toArray, List.set_cons_zero, List.set_cons_succ]
            refine wpAnyH_take (i := 16) (oi := ({ dst := some 58, op := Go.Op.move (Go.Operand.tmp 14), type := 3, pos := "freightref8.go:140", after := #[{ on := 9, ground := Go.Ground.guard }], guard := some (9, true) } : Oper)) (v := ?_) rfl (by kernel_rfl) (by kernel_rfl) (by kernel_rfl) (fun _ _ _ h => h) (Or.inl ⟨by rfl, ?_⟩) (by assumption) ?_
            rotate_left
            · (intro w hSw; (try dsimp only at hSw); go_simp; try with_reducible rfl)
            try simp only [Act.put, List.setIfInBounds_toArray, List.set_cons_zero, List.set_cons_succ]
            refine wpAnyH_take (i := 17) (oi := ({ dst := some 59, op := Go.Op.indexAddr 22 (Go.Operand.tmp 57) (Go.Operand.tmp 58), type := 0, pos := "freightref8.go:140", after := #[{ on := 15, ground := Go.Ground.data }, { on := 16, ground := Go.Ground.data }, { on := 9, ground := Go.Ground.guard }], guard := some (9, true) } : Oper)) (v := ?_) rfl (by kernel_rfl) (by kernel_rfl) (by kernel_rfl) (fun _ _ _ h => h) (Or.inl ⟨by rfl, ?_⟩) (by assumption) ?_
            rotate_left
            · (intro w hSw; (try dsimp only at hSw); go_simp; try with_reducible rfl)
            try simp only [Act.put, List.setIfInBounds_toArray, List.set_cons_zero, List.set_cons_succ]
            refine wpAnyH_take (i := 18) (oi := ({ dst := some 60, op := Go.Op.fieldAddr 39 (Go.Operand.tmp 59) 0, type := 0, pos := "freightref8.go:140", after := #[{ on := 17, ground := Go.Ground.data }, { on := 9, ground := Go.Ground.guard }], guard := some (9, true) } : Oper)) (v := ?_) rfl (by kernel_rfl) (by kernel_rfl) (by kernel_rfl) (fun _ _ _ h => h) (Or.inl ⟨by rfl, ?_⟩) (by assumption) ?_
            rotate_left
            · (intro w hSw; (try dsimp only at hSw); go_simp; try with_reducible rfl)
            try simp only [Act.put, List.setIfInBounds_toArray, List.set_cons_zero, List.set_cons_succ]
            refine wpAnyH_take (i := 19) (oi := ({ dst := some 61, op := Go.Op.load 37 (Go.Operand.tmp 60), type := 37, pos := "freightref8.go:140", after := #[{ on := 18, ground := Go.Ground.data }, { on := 9, ground := Go.Ground.guard }], guard := some (9, true) } : Oper)) (v := .agg (List.toArray (bs y.act))) rfl (by kernel_rfl) (by kernel_rfl) (by kernel_rfl) (fun _ _ _ h => h) (yieldsIf_load_mid (by rfl) _ _ rfl _ _ rfl (bs y.act) _ (fun w hSw => (rangeAt_act (rangeAt_keep ry hSw (by simp)))) Try.underlying37 rfl (hi37 y.la)) (by assumption) ?_
            try simp only [Act.put, List.setIfInBounds_toArray, List.set_cons_zero, List.set_cons_succ]
            refine wpAnyH_ready (rs := [20]) (by kernel_rfl) (by simp) ?_
            refine (AllReadyH.cons (o := ({ dst := some 62, op := Go.Op.call { callee := Go.Callee.value (Go.Operand.func 44), args := #[Go.Operand.tmp 56, Go.Operand.tmp 61], argTypes := #[37, 37] }, type := 3, pos := "freightref8.go:140", after := #[{ on := 14, ground := Go.Ground.data }, { on := 19, ground := Go.Ground.data }, { on := 9, ground := Go.Ground.chain }, { on := 9, ground := Go.Ground.guard }], guard := some (9, true) } : Oper)) rfl (fun K hK => ?_) AllReadyH.nil)
            go_simp
            (refine (ORD.out _).mono ?_; rintro e w' ⟨rfl, hk⟩)
            go_wp2_with fail
            refine hK.out _ _ ?_ (fun hHeld1 => ?_)
            · (try dsimp only); first | exact (Keep.refl [] _).drew | exact (by assumption : Keep [] wr _).drew | exact Keep.trans' (by assumption) hk
            clear hK K
            try simp only [Act.put, List.setIfInBounds_toArray, List.set_cons_zero, List.set_cons_succ]
            refine wpAnyH_take (i := 21) (oi := ({ dst := some 63, op := Go.Op.binOp Go.BinOp.lss 3 (Go.Operand.tmp 62) (Go.Operand.const (Go.Value.int Go.IntKind.i64 0)) 3, type := 4, pos := "freightref8.go:140", after := #[{ on := 20, ground := Go.Ground.data }, { on := 9, ground := Go.Ground.guard }], guard := some (9, true) } : Oper)) (v := ?_) rfl (by kernel_rfl) (by kernel_rfl) (by kernel_rfl) (fun _ _ _ h => h) (Or.inl ⟨by rfl, ?_⟩) (by assumption) ?_
            rotate_left
            · (intro w hSw; (try dsimp only at hSw); go_simp; try with_reducible rfl)
            try simp only [Act.put, List.setIfInBounds_toArray, List.set_cons_zero, List.set_cons_succ]
            refine wpAnyH_take (i := 22) (oi := ({ dst := some 64, op := Go.Op.pick (Go.Operand.tmp 51) (Go.Operand.tmp 63) (Go.Operand.const (Go.Value.bool false)), type := 4, pos := "freightref8.go:140", after := #[{ on := 9, ground := Go.Ground.data }, { on := 21, ground := Go.Ground.data }, { on := 4, ground := Go.Ground.guard }], guard := some (4, false) } : Oper)) (v := ?_) rfl (by kernel_rfl) (by kernel_rfl) (by kernel_rfl) (fun _ _ _ h => h) (Or.inl ⟨by rfl, ?_⟩) (by assumption) ?_
            rotate_left
            · (intro w hSw; (try dsimp only at hSw); go_simp; try with_reducible rfl)
            try simp only [Act.put, List.setIfInBounds_toArray, List.set_cons_zero, List.set_cons_succ]
            refine wpAnyH_take (i := 23) (oi := ({ dst := some 65, op := Go.Op.pick (Go.Operand.tmp 46) (Go.Operand.const (Go.Value.bool true)) (Go.Operand.tmp 64), type := 4, pos := "freightref8.go:140", after := #[{ on := 4, ground := Go.Ground.data }, { on := 22, ground := Go.Ground.data }], guard := none } : Oper)) (v := ?_) rfl (by kernel_rfl) (by kernel_rfl) (by kernel_rfl) (fun _ _ _ h => h) (Or.inl ⟨by rfl, ?_⟩) (by assumption) ?_
            rotate_left
            · (intro w hSw; (try dsimp only at hSw); go_simp; try with_reducible rfl)
            try simp only [Act.put, List.setIfInBounds_toArray, List.set_cons_zero, List.set_cons_succ]
            refine wpAnyH_done (by kernel_rfl) ?_ _
            refine NoPanic.normal ?_
            have hR0 := (by assumption : Keep [] wr _)
            go_upto_region 15 with fail
            refine wp_region_noPanic ?_
            refine wp_region_held_drew (S := fun W => Keep [] wr W) (by kernel_rfl) ?_ (fun hHeld0 => ?_)
            · (try dsimp only); first | exact (Keep.refl [] _).drew | exact (by assumption : Keep [] wr _).drew | exact Keep.trans' (by assumption) hk
            refine wpAnyH_take (i := 0) (oi := ({ dst := some 75, op := Go.Op.move (Go.Operand.tmp 13), type := 3, pos := "freightref8.go:145", after := #[], guard := none } : Oper)) (v := ?_) rfl (by kernel_rfl) (by kernel_rfl) (by kernel_rfl) (fun _ _ _ h => h) (Or.inl ⟨by rfl, ?_⟩) (by assumption) ?_
            rotate_left
            · (intro w hSw; (try dsimp only at hSw); go_simp; try with_reducible rfl)
            try simp only [Act.put, List.setIfInBounds_toArray, List.set_cons_zero, List.set_cons_succ]
            refine wpAnyH_take (i := 1) (oi := ({ dst := some 76, op := Go.Op.move (Go.Operand.tmp 0), type := 22, pos := "freightref8.go:145", after := #[], guard := none } : Oper)) (v := ?_) rfl (by kernel_rfl) (by kernel_rfl) (by kernel_rfl) (fun _ _ _ h => h) (Or.inl ⟨by rfl, ?_⟩) (by assumption) ?_
            rotate_left
            · (intro w hSw; (try dsimp only at hSw); go_simp; try with_reducible rfl)
            try simp only [Act.put, List.setIfInBounds_toArray, List.set_cons_zero, List.set_cons_succ]
            refine wpAnyH_take (i := 2) (oi := ({ dst := some 77, op := Go.Op.call { callee := Go.Callee.builtin Go.Builtin.len, args := #[Go.Operand.tmp 76], argTypes := #[22] }, type := 3, pos := "freightref8.go:145", after := #[{ on := 1, ground := Go.Ground.data }], guard := none } : Oper)) (v := ?_) rfl (by kernel_rfl) (by kernel_rfl) (by kernel_rfl) (fun _ _ _ h => h) (Or.inl ⟨by rfl, ?_⟩) (by assumption) ?_
            rotate_left
            · (intro w hSw; (try dsimp only at hSw); go_simp; try with_reducible rfl)
            try simp only [Act.put, List.setIfInBounds_toArray, List.set_cons_zero, List.set_cons_succ]
            refine wpAnyH_take (i := 3) (oi := ({ dst := some 78, op := Go.Op.binOp Go.BinOp.eql 3 (Go.Operand.tmp 75) (Go.Operand.tmp 77) 3, type := 4, pos := "freightref8.go:145", after := #[{ on := 0, ground := Go.Ground.data }, { on := 2, ground := Go.Ground.data }], guard := none } : Oper)) (v := ?_) rfl (by kernel_rfl) (by kernel_rfl) (by kernel_rfl) (fun _ _ _ h => h) (Or.inl ⟨by rfl, ?_⟩) (by assumption) ?_
            rotate_left
            · (intro w hSw; (try dsimp only at hSw); go_simp; try with_reducible rfl)
            try simp only [Act.put, List.setIfInBounds_toArray, List.set_cons_zero, List.set_cons_succ]
            refine wpAnyH_take (i := 4) (oi := ({ dst := some 79, op := Go.Op.move (Go.Operand.tmp 78), type := 4, pos := "freightref8.go:145", after := #[{ on := 3, ground := Go.Ground.data }], guard := none } : Oper)) (v := ?_) rfl (by kernel_rfl) (by kernel_rfl) (by kernel_rfl) (fun _ _ _ h => h) (Or.inl ⟨by rfl, ?_⟩) (by assumption) ?_
            rotate_left
            · (intro w hSw; (try dsimp only at hSw); go_simp; try with_reducible rfl)
            try simp only [Act.put, List.setIfInBounds_toArray, List.set_cons_zero, List.set_cons_succ]
            refine wpAnyH_take (i := 5) (oi := ({ dst := some 80, op := Go.Op.move (Go.Operand.tmp 0), type := 22, pos := "freightref8.go:145", after := #[{ on := 4, ground := Go.Ground.guard }], guard := some (4, false) } : Oper)) (v := ?_) rfl (by kernel_rfl) (by kernel_rfl) (by kernel_rfl) (fun _ _ _ h => h) (Or.inl ⟨by rfl, ?_⟩) (by assumption) ?_
            rotate_left
            · (intro w hSw; (try dsimp only at hSw); go_simp; try with_reducible rfl)
            try simp only [Act.put, List.setIfInBounds_toArray, List.set_cons_zero, List.set_cons_succ]
            refine wpAnyH_take (i := 6) (oi := ({ dst := some 81, op := Go.Op.move (Go.Operand.tmp 13), type := 3, pos := "freightref8.go:145", after := #[{ on := 4, ground := Go.Ground.guard }], guard := some (4, false) } : Oper)) (v := ?_) rfl (by kernel_rfl) (by kernel_rfl) (by kernel_rfl) (fun _ _ _ h => h) (Or.inl ⟨by rfl, ?_⟩) (by assumption) ?_
            rotate_left
            · (intro w hSw; (try dsimp only at hSw); go_simp; try with_reducible rfl)
            try simp only [Act.put, List.setIfInBounds_toArray, List.set_cons_zero, List.set_cons_succ]
            refine wpAnyH_take (i := 7) (oi := ({ dst := some 82, op := Go.Op.indexAddr 22 (Go.Operand.tmp 80) (Go.Operand.tmp 81), type := 0, pos := "freightref8.go:145", after := #[{ on := 5, ground := Go.Ground.data }, { on := 6, ground := Go.Ground.data }, { on := 4, ground := Go.Ground.guard }], guard := some (4, false) } : Oper)) (v := ?_) rfl (by kernel_rfl) (by kernel_rfl) (by kernel_rfl) (fun _ _ _ h => h) (Or.inl ⟨by rfl, ?_⟩) (by assumption) ?_
            rotate_left
            · (intro w hSw; (try dsimp only at hSw); go_simp; try with_reducible rfl)
            try simp only [Act.put, List.setIfInBounds_toArray, List.set_cons_zero, List.set_cons_succ]
            refine wpAnyH_take (i := 8) (oi := ({ dst := some 83, op := Go.Op.fieldAddr 39 (Go.Operand.tmp 82) 0, type := 0, pos := "freightref8.go:145", after := #[{ on := 7, ground := Go.Ground.data }, { on := 4, ground := Go.Ground.guard }], guard := some (4, false) } : Oper)) (v := ?_) rfl (by kernel_rfl) (by kernel_rfl) (by kernel_rfl) (fun _ _ _ h => h) (Or.inl ⟨by rfl, ?_⟩) (by assumption) ?_
            rotate_left
            · (intro w hSw; (try dsimp only at hSw); go_simp; try with_reducible rfl)
            try simp only [Act.put, List.setIfInBounds_toArray, List.set_cons_zero, List.set_cons_succ]
            refine wpAnyH_take (i := 9) (oi := ({ dst := some 84, op := Go.Op.load 37 (Go.Operand.tmp 83), type := 37, pos := "freightref8.go:145", after := #[{ on := 8, ground := Go.Ground.data }, { on := 4, ground := Go.Ground.guard }], guard := some (4, false) } : Oper)) (v := .agg (List.toArray (bs x.act))) rfl (by kernel_rfl) (by kernel_rfl) (by kernel_rfl) (fun _ _ _ h => h) (yieldsIf_load_mid (by rfl) _ _ rfl _ _ rfl (bs x.act) _ (fun w hSw => (rangeAt_act (rangeAt_keep rx hSw (by simp)))) Try.underlying37 rfl (hi37 x.la)) (by assumption) ?_
            try simp only [Act.put, List.setIfInBounds_toArray, List.set_cons_zero, List.set_cons_succ]
            refine wpAnyH_take (i := 10) (oi := ({ dst := some 85, op := Go.Op.move (Go.Operand.tmp 1), type := 22, pos := "freightref8.go:145", after := #[{ on := 4, ground := Go.Ground.guard }], guard := some (4, false) } : Oper)) (v := ?_) rfl (by kernel_rfl) (by kernel_rfl) (by kernel_rfl) (fun _ _ _ h => h) (Or.inl ⟨by rfl, ?_⟩) (by assumption) ?_
            rotate_left
            · (intro w hSw; (try dsimp only at hSw); go_simp; try with_reducible rfl)
            try simp only [Act.put, List.setIfInBounds_toArray, List.set_cons_zero, List.set_cons_succ]
            refine wpAnyH_take (i := 11) (oi := ({ dst := some 86, op := Go.Op.move (Go.Operand.tmp 14), type := 3, pos := "freightref8.go:145", after := #[{ on := 4, ground := Go.Ground.guard }], guard := some (4, false) } : Oper)) (v := ?_) rfl (by kernel_rfl) (by kernel_rfl) (by kernel_rfl) (fun _ _ _ h => h) (Or.inl ⟨by rfl, ?_⟩) (by assumption) ?_
            rotate_left
            · (intro w hSw; (try dsimp only at hSw); go_simp; try with_reducible rfl)
            try simp only [Act.put, List.setIfInBounds_toArray, List.set_cons_zero, List.set_cons_succ]
            refine wpAnyH_take (i := 12) (oi := ({ dst := some 87, op := Go.Op.indexAddr 22 (Go.Operand.tmp 85) (Go.Operand.tmp 86), type := 0, pos := "freightref8.go:145", after := #[{ on := 10, ground := Go.Ground.data }, { on := 11, ground := Go.Ground.data }, { on := 4, ground := Go.Ground.guard }], guard := some (4, false) } : Oper)) (v := ?_) rfl (by kernel_rfl) (by kernel_rfl) (by kernel_rfl) (fun _ _ _ h => h) (Or.inl ⟨by rfl, ?_⟩) (by assumption) ?_
            rotate_left
            · (intro w hSw; (try dsimp only at hSw); go_simp; try with_reducible rfl)
            try simp only [Act.put, List.setIfInBounds_toArray, List.set_cons_zero, List.set_cons_succ]
            refine wpAnyH_take (i := 13) (oi := ({ dst := some 88, op := Go.Op.fieldAddr 39 (Go.Operand.tmp 87) 0, type := 0, pos := "freightref8.go:145", after := #[{ on := 12, ground := Go.Ground.data }, { on := 4, ground := Go.Ground.guard }], guard := some (4, false) } : Oper)) (v := ?_) rfl (by kernel_rfl) (by kernel_rfl) (by kernel_rfl) (fun _ _ _ h => h) (Or.inl ⟨by rfl, ?_⟩) (by assumption) ?_
            rotate_left
            · (intro w hSw; (try dsimp only at hSw); go_simp; try with_reducible rfl)
            try simp only [Act.put, List.setIfInBounds_toArray, List.set_cons_zero, List.set_cons_succ]
            refine wpAnyH_take (i := 14) (oi := ({ dst := some 89, op := Go.Op.load 37 (Go.Operand.tmp 88), type := 37, pos := "freightref8.go:145", after := #[{ on := 13, ground := Go.Ground.data }, { on := 4, ground := Go.Ground.guard }], guard := some (4, false) } : Oper)) (v := .agg (List.toArray (bs y.act))) rfl (by kernel_rfl) (by kernel_rfl) (by kernel_rfl) (fun _ _ _ h => h) (yieldsIf_load_mid (by rfl) _ _ rfl _ _ rfl (bs y.act) _ (fun w hSw => (rangeAt_act (rangeAt_keep ry hSw (by simp)))) Try.underlying37 rfl (hi37 y.la)) (by assumption) ?_
            try simp only [Act.put, List.setIfInBounds_toArray, List.set_cons_zero, List.set_cons_succ]
            refine wpAnyH_ready (rs := [15]) (by kernel_rfl) (by simp) ?_
            refine (AllReadyH.cons (o := ({ dst := some 90, op := Go.Op.call { callee := Go.Callee.value (Go.Operand.func 44), args := #[Go.Operand.tmp 84, Go.Operand.tmp 89], argTypes := #[37, 37] }, type := 3, pos := "freightref8.go:145", after := #[{ on := 9, ground := Go.Ground.data }, { on := 14, ground := Go.Ground.data }, { on := 4, ground := Go.Ground.chain }, { on := 4, ground := Go.Ground.guard }], guard := some (4, false) } : Oper)) rfl (fun K hK => ?_) AllReadyH.nil)
            go_simp
            (refine (ORD.out _).mono ?_; rintro e w' ⟨rfl, hk⟩)
            go_wp2_with fail
            refine hK.out _ _ ?_ (fun hHeld1 => ?_)
            · (try dsimp only); first | exact (Keep.refl [] _).drew | exact (by assumption : Keep [] wr _).drew | exact Keep.trans' (by assumption) hk
            clear hK K
            try simp only [Act.put, List.setIfInBounds_toArray, List.set_cons_zero, List.set_cons_succ]
            refine wpAnyH_take (i := 16) (oi := ({ dst := some 91, op := Go.Op.binOp Go.BinOp.gtr 3 (Go.Operand.tmp 90) (Go.Operand.const (Go.Value.int Go.IntKind.i64 0)) 3, type := 4, pos := "freightref8.go:145", after := #[{ on := 15, ground := Go.Ground.data }, { on := 4, ground := Go.Ground.guard }], guard := some (4, false) } : Oper)) (v := ?_) rfl (by kernel_rfl) (by kernel_rfl) (by kernel_rfl) (fun _ _ _ h => h) (Or.inl ⟨by rfl, ?_⟩) (by assumption) ?_
            rotate_left
            · (intro w hSw; (try dsimp only at hSw); go_simp; try with_reducible rfl)
            try simp only [Act.put, List.setIfInBounds_toArray, List.set_cons_zero, List.set_cons_succ]
            refine wpAnyH_take (i := 17) (oi := ({ dst := some 92, op := Go.Op.pick (Go.Operand.tmp 79) (Go.Operand.const (Go.Value.bool true)) (Go.Operand.tmp 91), type := 4, pos := "freightref8.go:145", after := #[{ on := 4, ground := Go.Ground.data }, { on := 16, ground := Go.Ground.data }], guard := none } : Oper)) (v := ?_) rfl (by kernel_rfl) (by kernel_rfl) (by kernel_rfl) (fun _ _ _ h => h) (Or.inl ⟨by rfl, ?_⟩) (by assumption) ?_
            rotate_left
            · (intro w hSw; (try dsimp only at hSw); go_simp; try with_reducible rfl)
            try simp only [Act.put, List.setIfInBounds_toArray, List.set_cons_zero, List.set_cons_succ]
            refine wpAnyH_done (by kernel_rfl) ?_ _
            refine NoPanic.normal ?_
            have hR := (by assumption : Keep [] wr _)
            have jsQ := js.keep0 hR
            have ryQ := rangeAt_keep ry hR (by simp)
            go_wp2_with (first
              | (refine wpList_load_mid rfl 39 (.tmp 96) rfl _ _ rfl y.cells _ ryQ Try.underlying39 rfl (hi39 y) ?_)
              | (refine wpList_build1 rfl 22 39 (.tmp 97) rfl y.cells.toArray rfl (.agg Try.zeroCells39) 65 72 Try.underlying22 info39 (by simp [Res.len]) (by omega) (by omega) ?_)
              | (at_builtin; refine wpList_appendN rfl (.tmp 93) (.tmp 98) 22 rfl 39 (.agg Try.zeroCells39) 65 72 Try.underlying22 info39 zero39 (by omega) (.slice ao nO co) nO (cellsOf O) rfl (after_build jsQ.so).1 (some ⟨_, 0, none⟩) 1 1 y.cells rfl (res_len1 y) (by simp) (after_build jsQ.so).2.1 (Res.one y) (by simp only [maxLen]; omega) (by omega) ?_; intro a6 c6 w9 hs6 hk6 hf6)
              | fail)
            have jsF := (jsQ.keep0 (after_build jsQ.so (x := y)).2.2).out (Z := [y]) rfl (by rw [cellsOf_one]; exact hs6) hk6 hf6
            exact ⟨⟨i, j + 1, O ++ [y], K, _, _, _, _, _, _, by omega, by omega, rfl, rfl, rfl, by go_num, jsF, by rw [← HJ.out.1, HDY.out, (joinO_give (Or.inr ⟨x, _, HDX.out, by rw [HC.out]; exact c4.out⟩)).1, List.append_assoc]; rfl, by rw [← HJ.out.2, HDY.out, (joinO_give (how := how) (Or.inr ⟨x, _, HDX.out, by rw [HC.out]; exact c4.out⟩)).2], by omega, by omega⟩, by simp [intOf]; omega⟩

          · have c50 : CC = 0 := by omega
            subst c50
            have c5 := Lib.hid (rfl : (0 : Int) = 0)
            clear c1 c3
            go_upto_region 12 with fail
            refine wp_region_noPanic ?_
            refine wp_region_held_drew (S := fun W => Keep [] wr W) (by kernel_rfl) ?_ (fun hHeld0 => ?_)
            · (try dsimp only); first | exact (Keep.refl [] _).drew | exact (by assumption : Keep [] wr _).drew | exact Keep.trans' (by assumption) hk
            refine wpAnyH_take (i := 0) (oi := ({ dst := some 42, op := Go.Op.move (Go.Operand.tmp 14), type := 3, pos := "freightref8.go:140", after := #[], guard := none } : Oper)) (v := ?_) rfl (by kernel_rfl) (by kernel_rfl) (by kernel_rfl) (fun _ _ _ h => h) (Or.inl ⟨by rfl, ?_⟩) (by assumption) ?_
            rotate_left
            · (intro w hSw; (try dsimp only at hSw); go_simp; try with_reducible rfl)
            try simp only [Act.put, List.setIfInBounds_toArray, List.set_cons_zero, List.set_cons_succ]
            refine wpAnyH_take (i := 1) (oi := ({ dst := some 43, op := Go.Op.move (Go.Operand.tmp 1), type := 22, pos := "freightref8.go:140", after := #[], guard := none } : Oper)) (v := ?_) rfl (by kernel_rfl) (by kernel_rfl) (by kernel_rfl) (fun _ _ _ h => h) (Or.inl ⟨by rfl, ?_⟩) (by assumption) ?_
            rotate_left
            · (intro w hSw; (try dsimp only at hSw); go_simp; try with_reducible rfl)
            try simp only [Act.put, List.setIfInBounds_toArray, List.set_cons_zero, List.set_cons_succ]
            refine wpAnyH_take (i := 2) (oi := ({ dst := some 44, op := Go.Op.call { callee := Go.Callee.builtin Go.Builtin.len, args := #[Go.Operand.tmp 43], argTypes := #[22] }, type := 3, pos := "freightref8.go:140", after := #[{ on := 1, ground := Go.Ground.data }], guard := none } : Oper)) (v := ?_) rfl (by kernel_rfl) (by kernel_rfl) (by kernel_rfl) (fun _ _ _ h => h) (Or.inl ⟨by rfl, ?_⟩) (by assumption) ?_
            rotate_left
            · (intro w hSw; (try dsimp only at hSw); go_simp; try with_reducible rfl)
            try simp only [Act.put, List.setIfInBounds_toArray, List.set_cons_zero, List.set_cons_succ]
            refine wpAnyH_take (i := 3) (oi := ({ dst := some 45, op := Go.Op.binOp Go.BinOp.eql 3 (Go.Operand.tmp 42) (Go.Operand.tmp 44) 3, type := 4, pos := "freightref8.go:140", after := #[{ on := 0, ground := Go.Ground.data }, { on := 2, ground := Go.Ground.data }], guard := none } : Oper)) (v := ?_) rfl (by kernel_rfl) (by kernel_rfl) (by kernel_rfl) (fun _ _ _ h => h) (Or.inl ⟨by rfl, ?_⟩) (by assumption) ?_
            rotate_left
            · (intro w hSw; (try dsimp only at hSw); go_simp; try with_reducible rfl)
            try simp only [Act.put, List.setIfInBounds_toArray, List.set_cons_zero, List.set_cons_succ]
            refine wpAnyH_take (i := 4) (oi := ({ dst := some 46, op := Go.Op.move (Go.Operand.tmp 45), type := 4, pos := "freightref8.go:140", after := #[{ on := 3, ground := Go.Ground.data }], guard := none } : Oper)) (v := ?_) rfl (by kernel_rfl) (by kernel_rfl) (by kernel_rfl) (fun _ _ _ h => h) (Or.inl ⟨by rfl, ?_⟩) (by assumption) ?_
            rotate_left
            · (intro w hSw; (try dsimp only at hSw); go_simp; try with_reducible rfl)
            try simp only [Act.put, List.setIfInBounds_toArray, List.set_cons_zero, List.set_cons_succ]
            refine wpAnyH_take (i := 5) (oi := ({ dst := some 47, op := Go.Op.move (Go.Operand.tmp 13), type := 3, pos := "freightref8.go:140", after := #[{ on := 4, ground := Go.Ground.guard }], guard := some (4, false) } : Oper)) (v := ?_) rfl (by kernel_rfl) (by kernel_rfl) (by kernel_rfl) (fun _ _ _ h => h) (Or.inl ⟨by rfl, ?_⟩) (by assumption) ?_
            rotate_left
            · (intro w hSw; (try dsimp only at hSw); go_simp; try with_reducible rfl)
            try simp only [Act.put, List.setIfInBounds_toArray, List.set_cons_zero, List.set_cons_succ]
            refine wpAnyH_take (i := 6) (oi := ({ dst := some 48, op := Go.Op.move (Go.Operand.tmp 0), type := 22, pos := "freightref8.go:140", after := #[{ on := 4, ground := Go.Ground.guard }], guard := some (4, false) } : Oper)) (v := ?_) rfl (by kernel_rfl) (by kernel_rfl) (by kernel_rfl) (fun _ _ _ h => h) (Or.inl ⟨by rfl, ?_⟩) (by assumption) ?_
            rotate_left
            · (intro w hSw; (try dsimp only at hSw); go_simp; try with_reducible rfl)
            try simp only [Act.put, List.setIfInBounds_toArray, List.set_cons_zero, List.set_cons_succ]
            refine wpAnyH_take (i := 7) (oi := ({ dst := some 49, op := Go.Op.call { callee := Go.Callee.builtin Go.Builtin.len, args := #[Go.Operand.tmp 48], argTypes := #[22] }, type := 3, pos := "freightref8.go:140", after := #[{ on := 6, ground := Go.Ground.data }, { on := 4, ground := Go.Ground.guard }], guard := some (4, false) } : Oper)) (v := ?_) rfl (by kernel_rfl) (by kernel_rfl) (by kernel_rfl) (fun _ _ _ h => h) (Or.inl ⟨by rfl, ?_⟩) (by assumption) ?_
            rotate_left
            · (intro w hSw; (try dsimp only at hSw); go_simp; try with_reducible rfl)
            try simp only [Act.put, List.setIfInBounds_toArray, List.set_cons_zero, List.set_cons_succ]
            refine wpAnyH_take (i := 8) (oi := ({ dst := some 50, op := Go.Op.binOp Go.BinOp.lss 3 (Go.Operand.tmp 47) (Go.Operand.tmp 49) 3, type := 4, pos := "freightref8.go:140", after := #[{ on := 5, ground := Go.Ground.data }, { on := 7, ground := Go.Ground.data }, { on := 4, ground := Go.Ground.guard }], guard := some (4, false) } : Oper)) (v := ?_) rfl (by kernel_rfl) (by kernel_rfl) (by kernel_rfl) (fun _ _ _ h => h) (Or.inl ⟨by rfl, ?_⟩) (by assumption) ?_
            rotate_left
            · (intro w hSw; (try dsimp only at hSw); go_simp; try with_reducible rfl)
            try simp only [Act.put, List.setIfInBounds_toArray, List.set_cons_zero, List.set_cons_succ]
            refine wpAnyH_take (i := 9) (oi := ({ dst := some 51, op := Go.Op.move (Go.Operand.tmp 50), type := 4, pos := "freightref8.go:140", after := #[{ on := 8, ground := Go.Ground.data }, { on := 4, ground := Go.Ground.chain }, { on := 4, ground := Go.Ground.guard }], guard := some (4, false) } : Oper)) (v := ?_) rfl (by kernel_rfl) (by kernel_rfl) (by kernel_rfl) (fun _ _ _ h => h) (Or.inl ⟨by rfl, ?_⟩) (by assumption) ?_
            rotate_left
            · (intro w hSw; (try dsimp only at hSw); go_simp; try with_reducible rfl)
            try simp only [Act.put, List.setIfInBounds_toArray, List.set_cons_zero, List.set_cons_succ]
            refine wpAnyH_take (i := 10) (oi := ({ dst := some 52, op := Go.Op.move (Go.Operand.tmp 0), type := 22, pos := "freightref8.go:140", after := #[{ on := 9, ground := Go.Ground.guard }], guard := some (9, true) } : Oper)) (v := ?_) rfl (by kernel_rfl) (by kernel_rfl) (by kernel_rfl) (fun _ _ _ h => h) (Or.inl ⟨by rfl, ?_⟩) (by assumption) ?_
            rotate_left
            · (intro w hSw; (try dsimp only at hSw); go_simp; try with_reducible rfl)
            try simp only [Act.put, List.setIfInBounds_toArray, List.set_cons_zero, List.set_cons_succ]
            refine wpAnyH_take (i := 11) (oi := ({ dst := some 53, op := Go.Op.move (Go.Operand.tmp 13), type := 3, pos := "freightref8.go:140", after := #[{ on := 9, ground := Go.Ground.guard }], guard := some (9, true) } : Oper)) (v := ?_) rfl (by kernel_rfl) (by kernel_rfl) (by kernel_rfl) (fun _ _ _ h => h) (Or.inl ⟨by rfl, ?_⟩) (by assumption) ?_
            rotate_left
            · (intro w hSw; (try dsimp only at hSw); go_simp; try with_reducible rfl)
            try simp only [Act.put, List.setIfInBounds_toArray, List.set_cons_zero, List.set_cons_succ]
            refine wpAnyH_take (i := 12) (oi := ({ dst := some 54, op := Go.Op.indexAddr 22 (Go.Operand.tmp 52) (Go.Operand.tmp 53), type := 0, pos := "freightref8.go:140", after := #[{ on := 10, ground := Go.Ground.data }, { on := 11, ground := Go.Ground.data }, { on := 9, ground := Go.Ground.guard }], guard := some (9, true) } : Oper)) (v := ?_) rfl (by kernel_rfl) (by kernel_rfl) (by kernel_rfl) (fun _ _ _ h => h) (Or.inl ⟨by rfl, ?_⟩) (by assumption) ?_
            rotate_left
            · (intro w hSw; (try dsimp only at hSw); go_simp; try with_reducible rfl)
            try simp only [Act.put, List.setIfInBounds_toArray, List.set_cons_zero, List.set_cons_succ]
            refine wpAnyH_take (i := 13) (oi := ({ dst := some 55, op := Go.Op.fieldAddr 39 (Go.Operand.tmp 54) 0, type := 0, pos := "freightref8.go:140", after := #[{ on := 12, ground := Go.Ground.data }, { on := 9, ground := Go.Ground.guard }], guard := some (9, true) } : Oper)) (v := ?_) rfl (by kernel_rfl) (by kernel_rfl) (by kernel_rfl) (fun _ _ _ h => h) (Or.inl ⟨by rfl, ?_⟩) (by assumption) ?_
            rotate_left
            · (intro w hSw; (try dsimp only at hSw); go_simp; try with_reducible rfl)
            try simp only [Act.put, List.setIfInBounds_toArray, List.set_cons_zero, List.set_cons_succ]
            refine wpAnyH_take (i := 14) (oi := ({ dst := some 56, op := Go.Op.load 37 (Go.Operand.tmp 55), type := 37, pos := "freightref8.go:140", after := #[{ on := 13, ground := Go.Ground.data }, { on := 9, ground := Go.Ground.guard }], guard := some (9, true) } : Oper)) (v := .agg (List.toArray (bs x.act))) rfl (by kernel_rfl) (by kernel_rfl) (by kernel_rfl) (fun _ _ _ h => h) (yieldsIf_load_mid (by rfl) _ _ rfl _ _ rfl (bs x.act) _ (fun w hSw => (rangeAt_act (rangeAt_keep rx hSw (by simp)))) Try.underlying37 rfl (hi37 x.la)) (by assumption) ?_
            try simp only [Act.put, List.setIfInBounds_toArray, List.set_cons_zero, List.set_cons_succ]
            refine wpAnyH_take (i := 15) (oi := ({ dst := some 57, op := Go.Op.move (Go.Operand.tmp 1), type := 22, pos := "freightref8.go:140", after := #[{ on := 9, ground := Go.Ground.guard }], guard := some (9, true) } : Oper)) (v := ?_) rfl (by kernel_rfl) (by kernel_rfl) (by kernel_rfl) (fun _ _ _ h => h) (Or.inl ⟨by rfl, ?_⟩) (by assumption) ?_
            rotate_left
            · (intro w hSw; (try dsimp only at hSw); go_simp; try with_reducible rfl)
            try simp only [Act.put, List.setIfInBounds_toArray, List.set_cons_zero, List.set_cons_succ]
            refine wpAnyH_take (i := 16) (oi := ({ dst := some 58, op := Go.Op.move (Go.Operand.tmp 14), type := 3, pos := "freightref8.go:140", after := #[{ on := 9, ground := Go.Ground.guard }], guard := some (9, true) } : Oper)) (v := ?_) rfl (by kernel_rfl) (by kernel_rfl) (by kernel_rfl) (fun _ _ _ h => h) (Or.inl ⟨by rfl, ?_⟩) (by assumption) ?_
            rotate_left
            · (intro w hSw; (try dsimp only at hSw); go_simp; try with_reducible rfl)
            try simp only [Act.put, List.setIfInBounds_toArray, List.set_cons_zero, List.set_cons_succ]
            refine wpAnyH_take (i := 17) (oi := ({ dst := some 59, op := Go.Op.indexAddr 22 (Go.Operand.tmp 57) (Go.Operand.tmp 58), type := 0, pos := "freightref8.go:140", after := #[{ on := 15, ground := Go.Ground.data }, { on := 16, ground := Go.Ground.data }, { on := 9, ground := Go.Ground.guard }], guard := some (9, true) } : Oper)) (v := ?_) rfl (by kernel_rfl) (by kernel_rfl) (by kernel_rfl) (fun _ _ _ h => h) (Or.inl ⟨by rfl, ?_⟩) (by assumption) ?_
            rotate_left
            · (intro w hSw; (try dsimp only at hSw); go_simp; try with_reducible rfl)
            try simp only [Act.put, List.setIfInBounds_toArray, List.set_cons_zero, List.set_cons_succ]
            refine wpAnyH_take (i := 18) (oi := ({ dst := some 60, op := Go.Op.fieldAddr 39 (Go.Operand.tmp 59) 0, type := 0, pos := "freightref8.go:140", after := #[{ on := 17, ground := Go.Ground.data }, { on := 9, ground := Go.Ground.guard }], guard := some (9, true) } : Oper)) (v := ?_) rfl (by kernel_rfl) (by kernel_rfl) (by kernel_rfl) (fun _ _ _ h => h) (Or.inl ⟨by rfl, ?_⟩) (by assumption) ?_
            rotate_left
            · (intro w hSw; (try dsimp only at hSw); go_simp; try with_reducible rfl)
            try simp only [Act.put, List.setIfInBounds_toArray, List.set_cons_zero, List.set_cons_succ]
            refine wpAnyH_take (i := 19) (oi := ({ dst := some 61, op := Go.Op.load 37 (Go.Operand.tmp 60), type := 37, pos := "freightref8.go:140", after := #[{ on := 18, ground := Go.Ground.data }, { on := 9, ground := Go.Ground.guard }], guard := some (9, true) } : Oper)) (v := .agg (List.toArray (bs y.act))) rfl (by kernel_rfl) (by kernel_rfl) (by kernel_rfl) (fun _ _ _ h => h) (yieldsIf_load_mid (by rfl) _ _ rfl _ _ rfl (bs y.act) _ (fun w hSw => (rangeAt_act (rangeAt_keep ry hSw (by simp)))) Try.underlying37 rfl (hi37 y.la)) (by assumption) ?_
            try simp only [Act.put, List.setIfInBounds_toArray, List.set_cons_zero, List.set_cons_succ]
            refine wpAnyH_ready (rs := [20]) (by kernel_rfl) (by simp) ?_
            refine (AllReadyH.cons (o := ({ dst := some 62, op := Go.Op.call { callee := Go.Callee.value (Go.Operand.func 44), args := #[Go.Operand.tmp 56, Go.Operand.tmp 61], argTypes := #[37, 37] }, type := 3, pos := "freightref8.go:140", after := #[{ on := 14, ground := Go.Ground.data }, { on := 19, ground := Go.Ground.data }, { on := 9, ground := Go.Ground.chain }, { on := 9, ground := Go.Ground.guard }], guard := some (9, true) } : Oper)) rfl (fun K hK => ?_) AllReadyH.nil)
            go_simp
            (refine (ORD.out _).mono ?_; rintro e w' ⟨rfl, hk⟩)
            go_wp2_with fail
            refine hK.out _ _ ?_ (fun hHeld1 => ?_)
            · (try dsimp only); first | exact (Keep.refl [] _).drew | exact (by assumption : Keep [] wr _).drew | exact Keep.trans' (by assumption) hk
            clear hK K
            try simp only [Act.put, List.setIfInBounds_toArray, List.set_cons_zero, List.set_cons_succ]
            refine wpAnyH_take (i := 21) (oi := ({ dst := some 63, op := Go.Op.binOp Go.BinOp.lss 3 (Go.Operand.tmp 62) (Go.Operand.const (Go.Value.int Go.IntKind.i64 0)) 3, type := 4, pos := "freightref8.go:140", after := #[{ on := 20, ground := Go.Ground.data }, { on := 9, ground := Go.Ground.guard }], guard := some (9, true) } : Oper)) (v := ?_) rfl (by kernel_rfl) (by kernel_rfl) (by kernel_rfl) (fun _ _ _ h => h) (Or.inl ⟨by rfl, ?_⟩) (by assumption) ?_
            rotate_left
            · (intro w hSw; (try dsimp only at hSw); go_simp; try with_reducible rfl)
            try simp only [Act.put, List.setIfInBounds_toArray, List.set_cons_zero, List.set_cons_succ]
            refine wpAnyH_take (i := 22) (oi := ({ dst := some 64, op := Go.Op.pick (Go.Operand.tmp 51) (Go.Operand.tmp 63) (Go.Operand.const (Go.Value.bool false)), type := 4, pos := "freightref8.go:140", after := #[{ on := 9, ground := Go.Ground.data }, { on := 21, ground := Go.Ground.data }, { on := 4, ground := Go.Ground.guard }], guard := some (4, false) } : Oper)) (v := ?_) rfl (by kernel_rfl) (by kernel_rfl) (by kernel_rfl) (fun _ _ _ h => h) (Or.inl ⟨by rfl, ?_⟩) (by assumption) ?_
            rotate_left
            · (intro w hSw; (try dsimp only at hSw); go_simp; try with_reducible rfl)
            try simp only [Act.put, List.setIfInBounds_toArray, List.set_cons_zero, List.set_cons_succ]
            refine wpAnyH_take (i := 23) (oi := ({ dst := some 65, op := Go.Op.pick (Go.Operand.tmp 46) (Go.Operand.const (Go.Value.bool true)) (Go.Operand.tmp 64), type := 4, pos := "freightref8.go:140", after := #[{ on := 4, ground := Go.Ground.data }, { on := 22, ground := Go.Ground.data }], guard := none } : Oper)) (v := ?_) rfl (by kernel_rfl) (by kernel_rfl) (by kernel_rfl) (fun _ _ _ h => h) (Or.inl ⟨by rfl, ?_⟩) (by assumption) ?_
            rotate_left
            · (intro w hSw; (try dsimp only at hSw); go_simp; try with_reducible rfl)
            try simp only [Act.put, List.setIfInBounds_toArray, List.set_cons_zero, List.set_cons_succ]
            refine wpAnyH_done (by kernel_rfl) ?_ _
            refine NoPanic.normal ?_
            have hR0 := (by assumption : Keep [] wr _)
            go_upto_region 15 with fail
            refine wp_region_noPanic ?_
            refine wp_region_held_drew (S := fun W => Keep [] wr W) (by kernel_rfl) ?_ (fun hHeld0 => ?_)
            · (try dsimp only); first | exact (Keep.refl [] _).drew | exact (by assumption : Keep [] wr _).drew | exact Keep.trans' (by assumption) hk
            refine wpAnyH_take (i := 0) (oi := ({ dst := some 75, op := Go.Op.move (Go.Operand.tmp 13), type := 3, pos := "freightref8.go:145", after := #[], guard := none } : Oper)) (v := ?_) rfl (by kernel_rfl) (by kernel_rfl) (by kernel_rfl) (fun _ _ _ h => h) (Or.inl ⟨by rfl, ?_⟩) (by assumption) ?_
            rotate_left
            · (intro w hSw; (try dsimp only at hSw); go_simp; try with_reducible rfl)
            try simp only [Act.put, List.setIfInBounds_toArray, List.set_cons_zero, List.set_cons_succ]
            refine wpAnyH_take (i := 1) (oi := ({ dst := some 76, op := Go.Op.move (Go.Operand.tmp 0), type := 22, pos := "freightref8.go:145", after := #[], guard := none } : Oper)) (v := ?_) rfl (by kernel_rfl) (by kernel_rfl) (by kernel_rfl) (fun _ _ _ h => h) (Or.inl ⟨by rfl, ?_⟩) (by assumption) ?_
            rotate_left
            · (intro w hSw; (try dsimp only at hSw); go_simp; try with_reducible rfl)
            try simp only [Act.put, List.setIfInBounds_toArray, List.set_cons_zero, List.set_cons_succ]
            refine wpAnyH_take (i := 2) (oi := ({ dst := some 77, op := Go.Op.call { callee := Go.Callee.builtin Go.Builtin.len, args := #[Go.Operand.tmp 76], argTypes := #[22] }, type := 3, pos := "freightref8.go:145", after := #[{ on := 1, ground := Go.Ground.data }], guard := none } : Oper)) (v := ?_) rfl (by kernel_rfl) (by kernel_rfl) (by kernel_rfl) (fun _ _ _ h => h) (Or.inl ⟨by rfl, ?_⟩) (by assumption) ?_
            rotate_left
            · (intro w hSw; (try dsimp only at hSw); go_simp; try with_reducible rfl)
            try simp only [Act.put, List.setIfInBounds_toArray, List.set_cons_zero, List.set_cons_succ]
            refine wpAnyH_take (i := 3) (oi := ({ dst := some 78, op := Go.Op.binOp Go.BinOp.eql 3 (Go.Operand.tmp 75) (Go.Operand.tmp 77) 3, type := 4, pos := "freightref8.go:145", after := #[{ on := 0, ground := Go.Ground.data }, { on := 2, ground := Go.Ground.data }], guard := none } : Oper)) (v := ?_) rfl (by kernel_rfl) (by kernel_rfl) (by kernel_rfl) (fun _ _ _ h => h) (Or.inl ⟨by rfl, ?_⟩) (by assumption) ?_
            rotate_left
            · (intro w hSw; (try dsimp only at hSw); go_simp; try with_reducible rfl)
            try simp only [Act.put, List.setIfInBounds_toArray, List.set_cons_zero, List.set_cons_succ]
            refine wpAnyH_take (i := 4) (oi := ({ dst := some 79, op := Go.Op.move (Go.Operand.tmp 78), type := 4, pos := "freightref8.go:145", after := #[{ on := 3, ground := Go.Ground.data }], guard := none } : Oper)) (v := ?_) rfl (by kernel_rfl) (by kernel_rfl) (by kernel_rfl) (fun _ _ _ h => h) (Or.inl ⟨by rfl, ?_⟩) (by assumption) ?_
            rotate_left
            · (intro w hSw; (try dsimp only at hSw); go_simp; try with_reducible rfl)
            try simp only [Act.put, List.setIfInBounds_toArray, List.set_cons_zero, List.set_cons_succ]
            refine wpAnyH_take (i := 5) (oi := ({ dst := some 80, op := Go.Op.move (Go.Operand.tmp 0), type := 22, pos := "freightref8.go:145", after := #[{ on := 4, ground := Go.Ground.guard }], guard := some (4, false) } : Oper)) (v := ?_) rfl (by kernel_rfl) (by kernel_rfl) (by kernel_rfl) (fun _ _ _ h => h) (Or.inl ⟨by rfl, ?_⟩) (by assumption) ?_
            rotate_left
            · (intro w hSw; (try dsimp only at hSw); go_simp; try with_reducible rfl)
            try simp only [Act.put, List.setIfInBounds_toArray, List.set_cons_zero, List.set_cons_succ]
            refine wpAnyH_take (i := 6) (oi := ({ dst := some 81, op := Go.Op.move (Go.Operand.tmp 13), type := 3, pos := "freightref8.go:145", after := #[{ on := 4, ground := Go.Ground.guard }], guard := some (4, false) } : Oper)) (v := ?_) rfl (by kernel_rfl) (by kernel_rfl) (by kernel_rfl) (fun _ _ _ h => h) (Or.inl ⟨by rfl, ?_⟩) (by assumption) ?_
            rotate_left
            · (intro w hSw; (try dsimp only at hSw); go_simp; try with_reducible rfl)
            try simp only [Act.put, List.setIfInBounds_toArray, List.set_cons_zero, List.set_cons_succ]
            refine wpAnyH_take (i := 7) (oi := ({ dst := some 82, op := Go.Op.indexAddr 22 (Go.Operand.tmp 80) (Go.Operand.tmp 81), type := 0, pos := "freightref8.go:145", after := #[{ on := 5, ground := Go.Ground.data }, { on := 6, ground := Go.Ground.data }, { on := 4, ground := Go.Ground.guard }], guard := some (4, false) } : Oper)) (v := ?_) rfl (by kernel_rfl) (by kernel_rfl) (by kernel_rfl) (fun _ _ _ h => h) (Or.inl ⟨by rfl, ?_⟩) (by assumption) ?_
            rotate_left
            · (intro w hSw; (try dsimp only at hSw); go_simp; try with_reducible rfl)
            try simp only [Act.put, List.setIfInBounds_toArray, List.set_cons_zero, List.set_cons_succ]
            refine wpAnyH_take (i := 8) (oi := ({ dst := some 83, op := Go.Op.fieldAddr 39 (Go.Operand.tmp 82) 0, type := 0, pos := "freightref8.go:145", after := #[{ on := 7, ground := Go.Ground.data }, { on := 4, ground := Go.Ground.guard }], guard := some (4, false) } : Oper)) (v := ?_) rfl (by kernel_rfl) (by kernel_rfl) (by kernel_rfl) (fun _ _ _ h => h) (Or.inl ⟨by rfl, ?_⟩) (by assumption) ?_
            rotate_left
            · (intro w hSw; (try dsimp only at hSw); go_simp; try with_reducible rfl)
            try simp only [Act.put, List.setIfInBounds_toArray, List.set_cons_zero, List.set_cons_succ]
            refine wpAnyH_take (i := 9) (oi := ({ dst := some 84, op := Go.Op.load 37 (Go.Operand.tmp 83), type := 37, pos := "freightref8.go:145", after := #[{ on := 8, ground := Go.Ground.data }, { on := 4, ground := Go.Ground.guard }], guard := some (4, false) } : Oper)) (v := .agg (List.toArray (bs x.act))) rfl (by kernel_rfl) (by kernel_rfl) (by kernel_rfl) (fun _ _ _ h => h) (yieldsIf_load_mid (by rfl) _ _ rfl _ _ rfl (bs x.act) _ (fun w hSw => (rangeAt_act (rangeAt_keep rx hSw (by simp)))) Try.underlying37 rfl (hi37 x.la)) (by assumption) ?_
            try simp only [Act.put, List.setIfInBounds_toArray, List.set_cons_zero, List.set_cons_succ]
            refine wpAnyH_take (i := 10) (oi := ({ dst := some 85, op := Go.Op.move (Go.Operand.tmp 1), type := 22, pos := "freightref8.go:145", after := #[{ on := 4, ground := Go.Ground.guard }], guard := some (4, false) } : Oper)) (v := ?_) rfl (by kernel_rfl) (by kernel_rfl) (by kernel_rfl) (fun _ _ _ h => h) (Or.inl ⟨by rfl, ?_⟩) (by assumption) ?_
            rotate_left
            · (intro w hSw; (try dsimp only at hSw); go_simp; try with_reducible rfl)
            try simp only [Act.put, List.setIfInBounds_toArray, List.set_cons_zero, List.set_cons_succ]
            refine wpAnyH_take (i := 11) (oi := ({ dst := some 86, op := Go.Op.move (Go.Operand.tmp 14), type := 3, pos := "freightref8.go:145", after := #[{ on := 4, ground := Go.Ground.guard }], guard := some (4, false) } : Oper)) (v := ?_) rfl (by kernel_rfl) (by kernel_rfl) (by kernel_rfl) (fun _ _ _ h => h) (Or.inl ⟨by rfl, ?_⟩) (by assumption) ?_
            rotate_left
            · (intro w hSw; (try dsimp only at hSw); go_simp; try with_reducible rfl)
            try simp only [Act.put, List.setIfInBounds_toArray, List.set_cons_zero, List.set_cons_succ]
            refine wpAnyH_take (i := 12) (oi := ({ dst := some 87, op := Go.Op.indexAddr 22 (Go.Operand.tmp 85) (Go.Operand.tmp 86), type := 0, pos := "freightref8.go:145", after := #[{ on := 10, ground := Go.Ground.data }, { on := 11, ground := Go.Ground.data }, { on := 4, ground := Go.Ground.guard }], guard := some (4, false) } : Oper)) (v := ?_) rfl (by kernel_rfl) (by kernel_rfl) (by kernel_rfl) (fun _ _ _ h => h) (Or.inl ⟨by rfl, ?_⟩) (by assumption) ?_
            rotate_left
            · (intro w hSw; (try dsimp only at hSw); go_simp; try with_reducible rfl)
            try simp only [Act.put, List.setIfInBounds_toArray, List.set_cons_zero, List.set_cons_succ]
            refine wpAnyH_take (i := 13) (oi := ({ dst := some 88, op := Go.Op.fieldAddr 39 (Go.Operand.tmp 87) 0, type := 0, pos := "freightref8.go:145", after := #[{ on := 12, ground := Go.Ground.data }, { on := 4, ground := Go.Ground.guard }], guard := some (4, false) } : Oper)) (v := ?_) rfl (by kernel_rfl) (by kernel_rfl) (by kernel_rfl) (fun _ _ _ h => h) (Or.inl ⟨by rfl, ?_⟩) (by assumption) ?_
            rotate_left
            · (intro w hSw; (try dsimp only at hSw); go_simp; try with_reducible rfl)
            try simp only [Act.put, List.setIfInBounds_toArray, List.set_cons_zero, List.set_cons_succ]
            refine wpAnyH_take (i := 14) (oi := ({ dst := some 89, op := Go.Op.load 37 (Go.Operand.tmp 88), type := 37, pos := "freightref8.go:145", after := #[{ on := 13, ground := Go.Ground.data }, { on := 4, ground := Go.Ground.guard }], guard := some (4, false) } : Oper)) (v := .agg (List.toArray (bs y.act))) rfl (by kernel_rfl) (by kernel_rfl) (by kernel_rfl) (fun _ _ _ h => h) (yieldsIf_load_mid (by rfl) _ _ rfl _ _ rfl (bs y.act) _ (fun w hSw => (rangeAt_act (rangeAt_keep ry hSw (by simp)))) Try.underlying37 rfl (hi37 y.la)) (by assumption) ?_
            try simp only [Act.put, List.setIfInBounds_toArray, List.set_cons_zero, List.set_cons_succ]
            refine wpAnyH_ready (rs := [15]) (by kernel_rfl) (by simp) ?_
            refine (AllReadyH.cons (o := ({ dst := some 90, op := Go.Op.call { callee := Go.Callee.value (Go.Operand.func 44), args := #[Go.Operand.tmp 84, Go.Operand.tmp 89], argTypes := #[37, 37] }, type := 3, pos := "freightref8.go:145", after := #[{ on := 9, ground := Go.Ground.data }, { on := 14, ground := Go.Ground.data }, { on := 4, ground := Go.Ground.chain }, { on := 4, ground := Go.Ground.guard }], guard := some (4, false) } : Oper)) rfl (fun K hK => ?_) AllReadyH.nil)
            go_simp
            (refine (ORD.out _).mono ?_; rintro e wQ ⟨rfl, hk⟩)
            go_wp2_with fail
            refine hK.out _ _ ?_ (fun hHeld1 => ?_)
            · (try dsimp only); first | exact (Keep.refl [] _).drew | exact (by assumption : Keep [] wr _).drew | exact Keep.trans' (by assumption) hk
            clear hK K
            try simp only [Act.put, List.setIfInBounds_toArray, List.set_cons_zero, List.set_cons_succ]
            refine wpAnyH_take (i := 16) (oi := ({ dst := some 91, op := Go.Op.binOp Go.BinOp.gtr 3 (Go.Operand.tmp 90) (Go.Operand.const (Go.Value.int Go.IntKind.i64 0)) 3, type := 4, pos := "freightref8.go:145", after := #[{ on := 15, ground := Go.Ground.data }, { on := 4, ground := Go.Ground.guard }], guard := some (4, false) } : Oper)) (v := ?_) rfl (by kernel_rfl) (by kernel_rfl) (by kernel_rfl) (fun _ _ _ h => h) (Or.inl ⟨by rfl, ?_⟩) (by assumption) ?_
            rotate_left
            · (intro w hSw; (try dsimp only at hSw); go_simp; try with_reducible rfl)
            try simp only [Act.put, List.setIfInBounds_toArray, List.set_cons_zero, List.set_cons_succ]
            refine wpAnyH_take (i := 17) (oi := ({ dst := some 92, op := Go.Op.pick (Go.Operand.tmp 79) (Go.Operand.const (Go.Value.bool true)) (Go.Operand.tmp 91), type := 4, pos := "freightref8.go:145", after := #[{ on := 4, ground := Go.Ground.data }, { on := 16, ground := Go.Ground.data }], guard := none } : Oper)) (v := ?_) rfl (by kernel_rfl) (by kernel_rfl) (by kernel_rfl) (fun _ _ _ h => h) (Or.inl ⟨by rfl, ?_⟩) (by assumption) ?_
            rotate_left
            · (intro w hSw; (try dsimp only at hSw); go_simp; try with_reducible rfl)
            try simp only [Act.put, List.setIfInBounds_toArray, List.set_cons_zero, List.set_cons_succ]
            refine wpAnyH_done (by kernel_rfl) ?_ _
            refine NoPanic.normal ?_
            have hR := (by assumption : Keep [] wr wQ)
            have rxQ := rangeAt_keep rx hR (by simp)
            go_upto_region 19 with (first
              | (refine wpList_load_mid rfl 39 (.tmp 104) rfl _ _ rfl x.cells _ rxQ Try.underlying39 rfl (hi39 x) ?_)
              | (refine wpList_store_last rfl 39 (.tmp 15) (.tmp 105) rfl wQ.heap.size Try.zeroCells39 x.cells.toArray rfl rfl rfl (hi39 x) (hz39 x) (res_all x) ?_)
              | fail)
            have BZ : Blk (wQ.alloc (.cells x.cells.toArray 39)) wQ.heap.size x.cells.toArray 39 := Blk.new wQ _ 39
            have kZ : Keep [] wr (wQ.alloc (.cells x.cells.toArray 39)) := hR.alloc _
            obtain ⟨Z, hZ⟩ : ∃ Z, wQ.alloc (.cells x.cells.toArray 39) = Z := ⟨_, rfl⟩
            rw [hZ] at BZ kZ ⊢
            clear hZ
            have jsQ := js.keep0 hR
            have hneO : wQ.heap.size ∉ blks (.slice ao nO co) := fun hb => by have := jsQ.so.lt _ hb; omega
            have hneK : wQ.heap.size ∉ blks (.slice ak nK ck) := fun hb => by have := jsQ.sk.lt _ hb; omega
            have hQw : w.heap.size ≤ wQ.heap.size := jsQ.k.size
            have jsD := (js.keep0 kZ).keep0 ((Keep.refl [] _).drew)
            have ryZ := rangeAt_keep ry kZ (by simp)
            have rZ := rangeAt_of_blk BZ.drew
            by_cases hxy : x = y
            · have t1 : decide (x = y) = true := by simpa using hxy
              have HXY := Lib.hid hxy
              clear hxy
              refine wp_region_noPanic ?_
              refine wp_region_held_drew (S := fun W => Keep [] Z W) (by kernel_rfl) ?_ (fun hHeld0 => ?_)
              · (try dsimp only); exact (Keep.refl [] _).drew
              refine wpAnyH_take (i := 0) (oi := ({ dst := some 106, op := Go.Op.load 39 (Go.Operand.tmp 15), type := 39, pos := "freightref8.go:151", after := #[], guard := none } : Oper)) (v := .agg (List.toArray x.cells)) rfl (by kernel_rfl) (by kernel_rfl) (by kernel_rfl) (fun _ _ _ h => h) (yieldsIf_load_mid (by rfl) _ _ rfl _ _ rfl x.cells _ (fun w hSw => (rangeAt_of_blk (BZ.keep hSw (by simp)))) Try.underlying39 rfl (hi39 x)) (by assumption) ?_
              try simp only [Act.put, List.setIfInBounds_toArray, List.set_cons_zero, List.set_cons_succ]
              refine wpAnyH_take (i := 1) (oi := ({ dst := some 107, op := Go.Op.move (Go.Operand.tmp 1), type := 22, pos := "freightref8.go:151", after := #[], guard := none } : Oper)) (v := ?_) rfl (by kernel_rfl) (by kernel_rfl) (by kernel_rfl) (fun _ _ _ h => h) (Or.inl ⟨by rfl, ?_⟩) (by assumption) ?_
              rotate_left
              · (intro w hSw; (try dsimp only at hSw); go_simp; try with_reducible rfl)
              try simp only [Act.put, List.setIfInBounds_toArray, List.set_cons_zero, List.set_cons_succ]
              refine wpAnyH_take (i := 2) (oi := ({ dst := some 108, op := Go.Op.move (Go.Operand.tmp 14), type := 3, pos := "freightref8.go:151", after := #[], guard := none } : Oper)) (v := ?_) rfl (by kernel_rfl) (by kernel_rfl) (by kernel_rfl) (fun _ _ _ h => h) (Or.inl ⟨by rfl, ?_⟩) (by assumption) ?_
              rotate_left
              · (intro w hSw; (try dsimp only at hSw); go_simp; try with_reducible rfl)
              try simp only [Act.put, List.setIfInBounds_toArray, List.set_cons_zero, List.set_cons_succ]
              refine wpAnyH_take (i := 3) (oi := ({ dst := some 109, op := Go.Op.indexAddr 22 (Go.Operand.tmp 107) (Go.Operand.tmp 108), type := 0, pos := "freightref8.go:151", after := #[{ on := 1, ground := Go.Ground.data }, { on := 2, ground := Go.Ground.data }], guard := none } : Oper)) (v := ?_) rfl (by kernel_rfl) (by kernel_rfl) (by kernel_rfl) (fun _ _ _ h => h) (Or.inl ⟨by rfl, ?_⟩) (by assumption) ?_
              rotate_left
              · (intro w hSw; (try dsimp only at hSw); go_simp; try with_reducible rfl)
              try simp only [Act.put, List.setIfInBounds_toArray, List.set_cons_zero, List.set_cons_succ]
              refine wpAnyH_take (i := 4) (oi := ({ dst := some 110, op := Go.Op.load 39 (Go.Operand.tmp 109), type := 39, pos := "freightref8.go:151", after := #[{ on := 3, ground := Go.Ground.data }], guard := none } : Oper)) (v := .agg (List.toArray y.cells)) rfl (by kernel_rfl) (by kernel_rfl) (by kernel_rfl) (fun _ _ _ h => h) (yieldsIf_load_mid (by rfl) _ _ rfl _ _ rfl y.cells _ (fun w hSw => (rangeAt_keep ryZ hSw (by simp))) Try.underlying39 rfl (hi39 y)) (by assumption) ?_
              try simp only [Act.put, List.setIfInBounds_toArray, List.set_cons_zero, List.set_cons_succ]
              refine wpAnyH_take (i := 5) (oi := ({ dst := some 111, op := Go.Op.binOp Go.BinOp.neq 39 (Go.Operand.tmp 106) (Go.Operand.tmp 110) 39, type := 4, pos := "freightref8.go:151", after := #[{ on := 0, ground := Go.Ground.data }, { on := 4, ground := Go.Ground.data }], guard := none } : Oper)) (v := ?_) rfl (by kernel_rfl) (by kernel_rfl) (by kernel_rfl) (fun _ _ _ h => h) (Or.inl ⟨by rfl, ?_⟩) (by assumption) ?_
              rotate_left
              · (intro w hSw; (try dsimp only at hSw); go_simp; try with_reducible rfl)
              try simp only [Act.put, List.setIfInBounds_toArray, List.set_cons_zero, List.set_cons_succ]
              refine wpAnyH_done (by kernel_rfl) ?_ _
              refine NoPanic.normal ?_
              go_wp2_with (first
                | (refine wpList_load_mid rfl 39 (.tmp 15) rfl _ _ rfl x.cells _ rZ Try.underlying39 rfl (hi39 x) ?_)
                | (refine wpList_build1 rfl 22 39 (.tmp 124) rfl x.cells.toArray rfl (.agg Try.zeroCells39) 65 72 Try.underlying22 info39 (by simp [Res.len]) (by omega) (by omega) ?_)
                | (at_builtin; refine wpList_appendN rfl (.tmp 123) (.tmp 125) 22 rfl 39 (.agg Try.zeroCells39) 65 72 Try.underlying22 info39 zero39 (by omega) (.slice ao nO co) nO (cellsOf O) rfl (after_build jsD.so).1 (some ⟨_, 0, none⟩) 1 1 x.cells rfl (res_len1 x) (by simp) (after_build jsD.so).2.1 (Res.one x) (by simp only [maxLen]; omega) (by omega) ?_; intro a6 c6 w9 hs6 hk6 hf6)
                | fail)
              have jsF := (jsD.keep0 (after_build jsD.so (x := x)).2.2).out (Z := [x]) rfl (by rw [cellsOf_one]; exact hs6) hk6 hf6
              exact ⟨⟨i + 1, j + 1, O ++ [x], K, _, _, _, _, _, _, by omega, by omega, rfl, rfl, by go_num, by go_num, jsF, by rw [← HJ.out.1, HDX.out, HDY.out, (joinO_both HC.out).1, pick_same HXY.out, List.append_assoc]; rfl, by rw [← HJ.out.2, HDX.out, HDY.out, (joinO_both (how := how) HC.out).2, if_pos HXY.out]; rfl, by omega, by omega⟩, by simp [intOf]; omega⟩

            · have t1 : decide (x = y) = false := by simpa using hxy
              have HXY := Lib.hid hxy
              clear hxy
              refine wp_region_noPanic ?_
              refine wp_region_held_drew (S := fun W => Keep [] Z W) (by kernel_rfl) ?_ (fun hHeld0 => ?_)
              · (try dsimp only); exact (Keep.refl [] _).drew
              refine wpAnyH_take (i := 0) (oi := ({ dst := some 106, op := Go.Op.load 39 (Go.Operand.tmp 15), type := 39, pos := "freightref8.go:151", after := #[], guard := none } : Oper)) (v := .agg (List.toArray x.cells)) rfl (by kernel_rfl) (by kernel_rfl) (by kernel_rfl) (fun _ _ _ h => h) (yieldsIf_load_mid (by rfl) _ _ rfl _ _ rfl x.cells _ (fun w hSw => (rangeAt_of_blk (BZ.keep hSw (by simp)))) Try.underlying39 rfl (hi39 x)) (by assumption) ?_
              try simp only [Act.put, List.setIfInBounds_toArray, List.set_cons_zero, List.set_cons_succ]
              refine wpAnyH_take (i := 1) (oi := ({ dst := some 107, op := Go.Op.move (Go.Operand.tmp 1), type := 22, pos := "freightref8.go:151", after := #[], guard := none } : Oper)) (v := ?_) rfl (by kernel_rfl) (by kernel_rfl) (by kernel_rfl) (fun _ _ _ h => h) (Or.inl ⟨by rfl, ?_⟩) (by assumption) ?_
              rotate_left
              · (intro w hSw; (try dsimp only at hSw); go_simp; try with_reducible rfl)
              try simp only [Act.put, List.setIfInBounds_toArray, List.set_cons_zero, List.set_cons_succ]
              refine wpAnyH_take (i := 2) (oi := ({ dst := some 108, op := Go.Op.move (Go.Operand.tmp 14), type := 3, pos := "freightref8.go:151", after := #[], guard := none } : Oper)) (v := ?_) rfl (by kernel_rfl) (by kernel_rfl) (by kernel_rfl) (fun _ _ _ h => h) (Or.inl ⟨by rfl, ?_⟩) (by assumption) ?_
              rotate_left
              · (intro w hSw; (try dsimp only at hSw); go_simp; try with_reducible rfl)
              try simp only [Act.put, List.setIfInBounds_toArray, List.set_cons_zero, List.set_cons_succ]
              refine wpAnyH_take (i := 3) (oi := ({ dst := some 109, op := Go.Op.indexAddr 22 (Go.Operand.tmp 107) (Go.Operand.tmp 108), type := 0, pos := "freightref8.go:151", after := #[{ on := 1, ground := Go.Ground.data }, { on := 2, ground := Go.Ground.data }], guard := none } : Oper)) (v := ?_) rfl (by kernel_rfl) (by kernel_rfl) (by kernel_rfl) (fun _ _ _ h => h) (Or.inl ⟨by rfl, ?_⟩) (by assumption) ?_
              rotate_left
              · (intro w hSw; (try dsimp only at hSw); go_simp; try with_reducible rfl)
              try simp only [Act.put, List.setIfInBounds_toArray, List.set_cons_zero, List.set_cons_succ]
              refine wpAnyH_take (i := 4) (oi := ({ dst := some 110, op := Go.Op.load 39 (Go.Operand.tmp 109), type := 39, pos := "freightref8.go:151", after := #[{ on := 3, ground := Go.Ground.data }], guard := none } : Oper)) (v := .agg (List.toArray y.cells)) rfl (by kernel_rfl) (by kernel_rfl) (by kernel_rfl) (fun _ _ _ h => h) (yieldsIf_load_mid (by rfl) _ _ rfl _ _ rfl y.cells _ (fun w hSw => (rangeAt_keep ryZ hSw (by simp))) Try.underlying39 rfl (hi39 y)) (by assumption) ?_
              try simp only [Act.put, List.setIfInBounds_toArray, List.set_cons_zero, List.set_cons_succ]
              refine wpAnyH_take (i := 5) (oi := ({ dst := some 111, op := Go.Op.binOp Go.BinOp.neq 39 (Go.Operand.tmp 106) (Go.Operand.tmp 110) 39, type := 4, pos := "freightref8.go:151", after := #[{ on := 0, ground := Go.Ground.data }, { on := 4, ground := Go.Ground.data }], guard := none } : Oper)) (v := ?_) rfl (by kernel_rfl) (by kernel_rfl) (by kernel_rfl) (fun _ _ _ h => h) (Or.inl ⟨by rfl, ?_⟩) (by assumption) ?_
              rotate_left
              · (intro w hSw; (try dsimp only at hSw); go_simp; try with_reducible rfl)
              try simp only [Act.put, List.setIfInBounds_toArray, List.set_cons_zero, List.set_cons_succ]
              refine wpAnyH_done (by kernel_rfl) ?_ _
              refine NoPanic.normal ?_
              go_upto_region 21 with (first
                | (refine wpList_load_mid rfl 37 (.tmp 113) rfl _ 0 rfl (bs x.act) _ (rangeAt_act rZ) Try.underlying37 rfl (hi37 x.la) ?_)
                | (refine wpList_build1 rfl 45 37 (.tmp 114) rfl (bs x.act).toArray rfl _ 32 32 under45 info37 (by simp [bs_length, x.la]) (by omega) (by omega) ?_)
                | (at_builtin; refine wpList_appendN rfl (.tmp 112) (.tmp 115) 45 rfl 37 _ 32 32 under45 info37 zero37 (by omega) (.slice ak nK ck) nK (idCells K) rfl (after_alloc jsD.sk).1 (some ⟨_, 0, none⟩) 1 1 (bs x.act) rfl (by rw [bs_length, x.la]) (by simp) (after_alloc jsD.sk).2.1 (bs_one x.act) (by simp only [maxLen]; omega) (by omega) ?_; intro a7 c7 w12 hs7 hk7 hf7)
                | fail)
              have kA := (after_alloc jsD.sk (cs := bs x.act) (t := 37)).2.2
              have js12 := (jsD.keep0 kA).clash hs7 hk7 hf7
              have BZ2 := (BZ.drew.keep kA (by simp)).keep hk7 hneK
              have ry2 := rangeAt_keep ry0 js12.k (by simp)
              by_cases h2 : how = 2
              · have q2 : (how == 2) = true := by simp [h2]
                have H2 := Lib.hid h2
                clear h2
                go_upto_region 23 with (first
                  | (refine wpList_load_mid rfl 39 (.tmp 121) rfl _ _ rfl y.cells _ ry2 Try.underlying39 rfl (hi39 y) ?_)
                  | (refine wpList_storeB rfl (.tmp 15) (.tmp 122) rfl _ y x.cells.toArray rfl rfl BZ2 (by simp [x.len]) ?_; intro w14 hB14 k14)
                  | fail)
                have hZ12 : wQ.heap.size < Z.heap.size := BZ.lt
                have js14 := js12.keep k14 (fun b hb => by simp only [List.mem_singleton]; rintro rfl; exact hneO hb) (fun b hb => by simp only [List.mem_singleton]; rintro rfl; rcases hf7 _ hb with h | h; exact hneK h; have := kA.size; have e : Z.drew.heap.size = Z.heap.size := rfl; omega) (fun b hb => by simp only [List.mem_singleton] at hb; omega)
                have r14 := rangeAt_of_blk hB14
                go_wp2_with (first
                  | (refine wpList_load_mid rfl 39 (.tmp 15) rfl _ _ rfl y.cells _ r14 Try.underlying39 rfl (hi39 y) ?_)
                  | (refine wpList_build1 rfl 22 39 (.tmp 124) rfl y.cells.toArray rfl (.agg Try.zeroCells39) 65 72 Try.underlying22 info39 (by simp [Res.len]) (by omega) (by omega) ?_)
                  | (at_builtin; refine wpList_appendN rfl (.tmp 123) (.tmp 125) 22 rfl 39 (.agg Try.zeroCells39) 65 72 Try.underlying22 info39 zero39 (by omega) (.slice ao nO co) nO (cellsOf O) rfl (after_build js14.so).1 (some ⟨_, 0, none⟩) 1 1 y.cells rfl (res_len1 y) (by simp) (after_build js14.so).2.1 (Res.one y) (by simp only [maxLen]; omega) (by omega) ?_; intro a6 c6 w9 hs6 hk6 hf6)
                  | fail)
                have jsF := (js14.keep0 (after_build js14.so (x := y)).2.2).out (Z := [y]) rfl (by rw [cellsOf_one]; exact hs6) hk6 hf6
                exact ⟨⟨i + 1, j + 1, O ++ [y], K ++ [x.act], _, _, _, _, _, _, by omega, by omega, rfl, rfl, by go_num, by go_num, jsF, by rw [← HJ.out.1, HDX.out, HDY.out, (joinO_both HC.out).1, pickR, if_pos H2.out, List.append_assoc]; rfl, by rw [← HJ.out.2, HDX.out, HDY.out, (joinO_both (how := how) HC.out).2, if_neg HXY.out, List.append_assoc], by omega, by omega⟩, by simp [intOf]; omega⟩
              · have q2 : (how == 2) = false := by simp [h2]
                have H2 := Lib.hid h2
                clear h2
                go_upto_region 23 with fail
                have r14 := rangeAt_of_blk BZ2
                go_wp2_with (first
                  | (refine wpList_load_mid rfl 39 (.tmp 15) rfl _ _ rfl x.cells _ r14 Try.underlying39 rfl (hi39 x) ?_)
                  | (refine wpList_build1 rfl 22 39 (.tmp 124) rfl x.cells.toArray rfl (.agg Try.zeroCells39) 65 72 Try.underlying22 info39 (by simp [Res.len]) (by omega) (by omega) ?_)
                  | (at_builtin; refine wpList_appendN rfl (.tmp 123) (.tmp 125) 22 rfl 39 (.agg Try.zeroCells39) 65 72 Try.underlying22 info39 zero39 (by omega) (.slice ao nO co) nO (cellsOf O) rfl (after_build js12.so).1 (some ⟨_, 0, none⟩) 1 1 x.cells rfl (res_len1 x) (by simp) (after_build js12.so).2.1 (Res.one x) (by simp only [maxLen]; omega) (by omega) ?_; intro a6 c6 w9 hs6 hk6 hf6)
                  | fail)
                have jsF := (js12.keep0 (after_build js12.so (x := x)).2.2).out (Z := [x]) rfl (by rw [cellsOf_one]; exact hs6) hk6 hf6
                exact ⟨⟨i + 1, j + 1, O ++ [x], K ++ [x.act], _, _, _, _, _, _, by omega, by omega, rfl, rfl, by go_num, by go_num, jsF, by rw [← HJ.out.1, HDX.out, HDY.out, (joinO_both HC.out).1, pickR, if_neg H2.out, List.append_assoc]; rfl, by rw [← HJ.out.2, HDX.out, HDY.out, (joinO_both (how := how) HC.out).2, if_neg HXY.out, List.append_assoc], by omega, by omega⟩, by simp [intOf]; omega⟩

      · obtain rfl : j = p := by omega
        have hM : m.drop j = [] := List.drop_eq_nil_of_le (by rw [HLL.out.2]; exact Nat.le_refl _)
        have HM := Lib.hid hM
        have HDX := Lib.hid hdx
        clear hM hdx ex
        go_upto_region 12 with fail
        refine wp_region_noPanic ?_
        refine wp_region_held_drew (S := fun W => Keep [] wr W) (by kernel_rfl) ?_ (fun hHeld0 => ?_)
        · (try dsimp only); first | exact (Keep.refl [] _).drew | exact (by assumption : Keep [] wr _).drew | exact Keep.trans' (by assumption) hk
        refine wpAnyH_take (i := 0) (oi := ({ dst := some 42, op := Go.Op.move (Go.Operand.tmp 14), type := 3, pos := "freightref8.go:140", after := #[], guard := none } : Oper)) (v := ?_) rfl (by kernel_rfl) (by kernel_rfl) (by kernel_rfl) (fun _ _ _ h => h) (Or.inl ⟨by rfl, ?_⟩) (by assumption) ?_
        rotate_left
        · (intro w hSw; (try dsimp only at hSw); go_simp; try with_reducible rfl)
        try simp only [Act.put, List.setIfInBounds_toArray, List.set_cons_zero, List.set_cons_succ]
        refine wpAnyH_take (i := 1) (oi := ({ dst := some 43, op := Go.Op.move (Go.Operand.tmp 1), type := 22, pos := "freightref8.go:140", after := #[], guard := none } : Oper)) (v := ?_) rfl (by kernel_rfl) (by kernel_rfl) (by kernel_rfl) (fun _ _ _ h => h) (Or.inl ⟨by rfl, ?_⟩) (by assumption) ?_
        rotate_left
        · (intro w hSw; (try dsimp only at hSw); go_simp; try with_reducible rfl)
        try simp only [Act.put, List.setIfInBounds_toArray, List.set_cons_zero, List.set_cons_succ]
        refine wpAnyH_take (i := 2) (oi := ({ dst := some 44, op := Go.Op.call { callee := Go.Callee.builtin Go.Builtin.len, args := #[Go.Operand.tmp 43], argTypes := #[22] }, type := 3, pos := "freightref8.go:140", after := #[{ on := 1, ground := Go.Ground.data }], guard := none } : Oper)) (v := ?_) rfl (by kernel_rfl) (by kernel_rfl) (by kernel_rfl) (fun _ _ _ h => h) (Or.inl ⟨by rfl, ?_⟩) (by assumption) ?_
        rotate_left
        · (intro w hSw; (try dsimp only at hSw); go_simp; try with_reducible rfl)
        try simp only [Act.put, List.setIfInBounds_toArray, List.set_cons_zero, List.set_cons_succ]
        refine wpAnyH_take (i := 3) (oi := ({ dst := some 45, op := Go.Op.binOp Go.BinOp.eql 3 (Go.Operand.tmp 42) (Go.Operand.tmp 44) 3, type := 4, pos := "freightref8.go:140", after := #[{ on := 0, ground := Go.Ground.data }, { on := 2, ground := Go.Ground.data }], guard := none } : Oper)) (v := ?_) rfl (by kernel_rfl) (by kernel_rfl) (by kernel_rfl) (fun _ _ _ h => h) (Or.inl ⟨by rfl, ?_⟩) (by assumption) ?_
        rotate_left
        · (intro w hSw; (try dsimp only at hSw); go_simp; try with_reducible rfl)
        try simp only [Act.put, List.setIfInBounds_toArray, List.set_cons_zero, List.set_cons_succ]
        refine wpAnyH_take (i := 4) (oi := ({ dst := some 46, op := Go.Op.move (Go.Operand.tmp 45), type := 4, pos := "freightref8.go:140", after := #[{ on := 3, ground := Go.Ground.data }], guard := none } : Oper)) (v := ?_) rfl (by kernel_rfl) (by kernel_rfl) (by kernel_rfl) (fun _ _ _ h => h) (Or.inl ⟨by rfl, ?_⟩) (by assumption) ?_
        rotate_left
        · (intro w hSw; (try dsimp only at hSw); go_simp; try with_reducible rfl)
        try simp only [Act.put, List.setIfInBounds_toArray, List.set_cons_zero, List.set_cons_succ]
        refine wpAnyH_take (i := 5) (oi := ({ dst := some 47, op := Go.Op.move (Go.Operand.tmp 13), type := 3, pos := "freightref8.go:140", after := #[{ on := 4, ground := Go.Ground.guard }], guard := some (4, false) } : Oper)) (v := undef) rfl (by kernel_rfl) (by kernel_rfl) (by kernel_rfl) (fun _ _ _ h => h) (Or.inr ⟨by rfl, rfl⟩) (by assumption) ?_
        try simp only [Act.put, List.setIfInBounds_toArray, List.set_cons_zero, List.set_cons_succ]
        refine wpAnyH_take (i := 6) (oi := ({ dst := some 48, op := Go.Op.move (Go.Operand.tmp 0), type := 22, pos := "freightref8.go:140", after := #[{ on := 4, ground := Go.Ground.guard }], guard := some (4, false) } : Oper)) (v := undef) rfl (by kernel_rfl) (by kernel_rfl) (by kernel_rfl) (fun _ _ _ h => h) (Or.inr ⟨by rfl, rfl⟩) (by assumption) ?_
        try simp only [Act.put, List.setIfInBounds_toArray, List.set_cons_zero, List.set_cons_succ]
        refine wpAnyH_take (i := 7) (oi := ({ dst := some 49, op := Go.Op.call { callee := Go.Callee.builtin Go.Builtin.len, args := #[Go.Operand.tmp 48], argTypes := #[22] }, type := 3, pos := "freightref8.go:140", after := #[{ on := 6, ground := Go.Ground.data }, { on := 4, ground := Go.Ground.guard }], guard := some (4, false) } : Oper)) (v := undef) rfl (by kernel_rfl) (by kernel_rfl) (by kernel_rfl) (fun _ _ _ h => h) (Or.inr ⟨by rfl, rfl⟩) (by assumption) ?_
        try simp only [Act.put, List.setIfInBounds_toArray, List.set_cons_zero, List.set_cons_succ]
        refine wpAnyH_take (i := 8) (oi := ({ dst := some 50, op := Go.Op.binOp Go.BinOp.lss 3 (Go.Operand.tmp 47) (Go.Operand.tmp 49) 3, type := 4, pos := "freightref8.go:140", after := #[{ on := 5, ground := Go.Ground.data }, { on := 7, ground := Go.Ground.data }, { on := 4, ground := Go.Ground.guard }], guard := some (4, false) } : Oper)) (v := undef) rfl (by kernel_rfl) (by kernel_rfl) (by kernel_rfl) (fun _ _ _ h => h) (Or.inr ⟨by rfl, rfl⟩) (by assumption) ?_
        try simp only [Act.put, List.setIfInBounds_toArray, List.set_cons_zero, List.set_cons_succ]
        refine wpAnyH_take (i := 9) (oi := ({ dst := some 51, op := Go.Op.move (Go.Operand.tmp 50), type := 4, pos := "freightref8.go:140", after := #[{ on := 8, ground := Go.Ground.data }, { on := 4, ground := Go.Ground.chain }, { on := 4, ground := Go.Ground.guard }], guard := some (4, false) } : Oper)) (v := undef) rfl (by kernel_rfl) (by kernel_rfl) (by kernel_rfl) (fun _ _ _ h => h) (Or.inr ⟨by rfl, rfl⟩) (by assumption) ?_
        try simp only [Act.put, List.setIfInBounds_toArray, List.set_cons_zero, List.set_cons_succ]
        refine wpAnyH_take (i := 10) (oi := ({ dst := some 52, op := Go.Op.move (Go.Operand.tmp 0), type := 22, pos := "freightref8.go:140", after := #[{ on := 9, ground := Go.Ground.guard }], guard := some (9, true) } : Oper)) (v := undef) rfl (by kernel_rfl) (by kernel_rfl) (by kernel_rfl) (fun _ _ _ h => h) (Or.inr ⟨by rfl, rfl⟩) (by assumption) ?_
        try simp only [Act.put, List.setIfInBounds_toArray, List.set_cons_zero, List.set_cons_succ]
        refine wpAnyH_take (i := 11) (oi := ({ dst := some 53, op := Go.Op.move (Go.Operand.tmp 13), type := 3, pos := "freightref8.go:140", after := #[{ on := 9, ground := Go.Ground.guard }], guard := some (9, true) } : Oper)) (v := undef) rfl (by kernel_rfl) (by kernel_rfl) (by kernel_rfl) (fun _ _ _ h => h) (Or.inr ⟨by rfl, rfl⟩) (by assumption) ?_
        try simp only [Act.put, List.setIfInBounds_toArray, List.set_cons_zero, List.set_cons_succ]
        refine wpAnyH_take (i := 12) (oi := ({ dst := some 54, op := Go.Op.indexAddr 22 (Go.Operand.tmp 52) (Go.Operand.tmp 53), type := 0, pos := "freightref8.go:140", after := #[{ on := 10, ground := Go.Ground.data }, { on := 11, ground := Go.Ground.data }, { on := 9, ground := Go.Ground.guard }], guard := some (9, true) } : Oper)) (v := undef) rfl (by kernel_rfl) (by kernel_rfl) (by kernel_rfl) (fun _ _ _ h => h) (Or.inr ⟨by rfl, rfl⟩) (by assumption) ?_
        try simp only [Act.put, List.setIfInBounds_toArray, List.set_cons_zero, List.set_cons_succ]
        refine wpAnyH_take (i := 13) (oi := ({ dst := some 55, op := Go.Op.fieldAddr 39 (Go.Operand.tmp 54) 0, type := 0, pos := "freightref8.go:140", after := #[{ on := 12, ground := Go.Ground.data }, { on := 9, ground := Go.Ground.guard }], guard := some (9, true) } : Oper)) (v := undef) rfl (by kernel_rfl) (by kernel_rfl) (by kernel_rfl) (fun _ _ _ h => h) (Or.inr ⟨by rfl, rfl⟩) (by assumption) ?_
        try simp only [Act.put, List.setIfInBounds_toArray, List.set_cons_zero, List.set_cons_succ]
        refine wpAnyH_take (i := 14) (oi := ({ dst := some 56, op := Go.Op.load 37 (Go.Operand.tmp 55), type := 37, pos := "freightref8.go:140", after := #[{ on := 13, ground := Go.Ground.data }, { on := 9, ground := Go.Ground.guard }], guard := some (9, true) } : Oper)) (v := undef) rfl (by kernel_rfl) (by kernel_rfl) (by kernel_rfl) (fun _ _ _ h => h) (Or.inr ⟨by rfl, rfl⟩) (by assumption) ?_
        try simp only [Act.put, List.setIfInBounds_toArray, List.set_cons_zero, List.set_cons_succ]
        refine wpAnyH_take (i := 15) (oi := ({ dst := some 57, op := Go.Op.move (Go.Operand.tmp 1), type := 22, pos := "freightref8.go:140", after := #[{ on := 9, ground := Go.Ground.guard }], guard := some (9, true) } : Oper)) (v := undef) rfl (by kernel_rfl) (by kernel_rfl) (by kernel_rfl) (fun _ _ _ h => h) (Or.inr ⟨by rfl, rfl⟩) (by assumption) ?_
        try simp only [Act.put, List.setIfInBounds_toArray, List.set_cons_zero, List.set_cons_succ]
        refine wpAnyH_take (i := 16) (oi := ({ dst := some 58, op := Go.Op.move (Go.Operand.tmp 14), type := 3, pos := "freightref8.go:140", after := #[{ on := 9, ground := Go.Ground.guard }], guard := some (9, true) } : Oper)) (v := undef) rfl (by kernel_rfl) (by kernel_rfl) (by kernel_rfl) (fun _ _ _ h => h) (Or.inr ⟨by rfl, rfl⟩) (by assumption) ?_
        try simp only [Act.put, List.setIfInBounds_toArray, List.set_cons_zero, List.set_cons_succ]
        refine wpAnyH_take (i := 17) (oi := ({ dst := some 59, op := Go.Op.indexAddr 22 (Go.Operand.tmp 57) (Go.Operand.tmp 58), type := 0, pos := "freightref8.go:140", after := #[{ on := 15, ground := Go.Ground.data }, { on := 16, ground := Go.Ground.data }, { on := 9, ground := Go.Ground.guard }], guard := some (9, true) } : Oper)) (v := undef) rfl (by kernel_rfl) (by kernel_rfl) (by kernel_rfl) (fun _ _ _ h => h) (Or.inr ⟨by rfl, rfl⟩) (by assumption) ?_
        try simp only [Act.put, List.setIfInBounds_toArray, List.set_cons_zero, List.set_cons_succ]
        refine wpAnyH_take (i := 18) (oi := ({ dst := some 60, op := Go.Op.fieldAddr 39 (Go.Operand.tmp 59) 0, type := 0, pos := "freightref8.go:140", after := #[{ on := 17, ground := Go.Ground.data }, { on := 9, ground := Go.Ground.guard }], guard := some (9, true) } : Oper)) (v := undef) rfl (by kernel_rfl) (by kernel_rfl) (by kernel_rfl) (fun _ _ _ h => h) (Or.inr ⟨by rfl, rfl⟩) (by assumption) ?_
        try simp only [Act.put, List.setIfInBounds_toArray, List.set_cons_zero, List.set_cons_succ]
        refine wpAnyH_take (i := 19) (oi := ({ dst := some 61, op := Go.Op.load 37 (Go.Operand.tmp 60), type := 37, pos := "freightref8.go:140", after := #[{ on := 18, ground := Go.Ground.data }, { on := 9, ground := Go.Ground.guard }], guard := some (9, true) } : Oper)) (v := undef) rfl (by kernel_rfl) (by kernel_rfl) (by kernel_rfl) (fun _ _ _ h => h) (Or.inr ⟨by rfl, rfl⟩) (by assumption) ?_
        try simp only [Act.put, List.setIfInBounds_toArray, List.set_cons_zero, List.set_cons_succ]
        refine wpAnyH_take (i := 20) (oi := ({ dst := some 62, op := Go.Op.call { callee := Go.Callee.value (Go.Operand.func 44), args := #[Go.Operand.tmp 56, Go.Operand.tmp 61], argTypes := #[37, 37] }, type := 3, pos := "freightref8.go:140", after := #[{ on := 14, ground := Go.Ground.data }, { on := 19, ground := Go.Ground.data }, { on := 9, ground := Go.Ground.chain }, { on := 9, ground := Go.Ground.guard }], guard := some (9, true) } : Oper)) (v := undef) rfl (by kernel_rfl) (by kernel_rfl) (by kernel_rfl) (fun _ _ _ h => h) (Or.inr ⟨by rfl, rfl⟩) (by assumption) ?_
        try simp only [Act.put, List.setIfInBounds_toArray, List.set_cons_zero, List.set_cons_succ]
        refine wpAnyH_take (i := 21) (oi := ({ dst := some 63, op := Go.Op.binOp Go.BinOp.lss 3 (Go.Operand.tmp 62) (Go.Operand.const (Go.Value.int Go.IntKind.i64 0)) 3, type := 4, pos := "freightref8.go:140", after := #[{ on := 20, ground := Go.Ground.data }, { on := 9, ground := Go.Ground.guard }], guard := some (9, true) } : Oper)) (v := undef) rfl (by kernel_rfl) (by kernel_rfl) (by kernel_rfl) (fun _ _ _ h => h) (Or.inr ⟨by rfl, rfl⟩) (by assumption) ?_
        try simp only [Act.put, List.setIfInBounds_toArray, List.set_cons_zero, List.set_cons_succ]
        refine wpAnyH_take (i := 22) (oi := ({ dst := some 64, op := Go.Op.pick (Go.Operand.tmp 51) (Go.Operand.tmp 63) (Go.Operand.const (Go.Value.bool false)), type := 4, pos := "freightref8.go:140", after := #[{ on := 9, ground := Go.Ground.data }, { on := 21, ground := Go.Ground.data }, { on := 4, ground := Go.Ground.guard }], guard := some (4, false) } : Oper)) (v := undef) rfl (by kernel_rfl) (by kernel_rfl) (by kernel_rfl) (fun _ _ _ h => h) (Or.inr ⟨by rfl, rfl⟩) (by assumption) ?_
        try simp only [Act.put, List.setIfInBounds_toArray, List.set_cons_zero, List.set_cons_succ]
        refine wpAnyH_take (i := 23) (oi := ({ dst := some 65, op := Go.Op.pick (Go.Operand.tmp 46) (Go.Operand.const (Go.Value.bool true)) (Go.Operand.tmp 64), type := 4, pos := "freightref8.go:140", after := #[{ on := 4, ground := Go.Ground.data }, { on := 22, ground := Go.Ground.data }], guard := none } : Oper)) (v := ?_) rfl (by kernel_rfl) (by kernel_rfl) (by kernel_rfl) (fun _ _ _ h => h) (Or.inl ⟨by rfl, ?_⟩) (by assumption) ?_
        rotate_left
        · (intro w hSw; (try dsimp only at hSw); go_simp; try with_reducible rfl)
        try simp only [Act.put, List.setIfInBounds_toArray, List.set_cons_zero, List.set_cons_succ]
        refine wpAnyH_done (by kernel_rfl) ?_ _
        refine NoPanic.normal ?_
        have hR := (by assumption : Keep [] wr _)
        have jsQ := js.keep0 hR
        have rxQ := rangeAt_keep rx hR (by simp)
        go_wp2_with (first
          | (refine wpList_load_mid rfl 39 (.tmp 69) rfl _ _ rfl x.cells _ rxQ Try.underlying39 rfl (hi39 x) ?_)
          | (refine wpList_build1 rfl 22 39 (.tmp 70) rfl x.cells.toArray rfl (.agg Try.zeroCells39) 65 72 Try.underlying22 info39 (by simp [Res.len]) (by omega) (by omega) ?_)
          | (at_builtin; refine wpList_appendN rfl (.tmp 66) (.tmp 71) 22 rfl 39 (.agg Try.zeroCells39) 65 72 Try.underlying22 info39 zero39 (by omega) (.slice ao nO co) nO (cellsOf O) rfl (after_build jsQ.so).1 (some ⟨_, 0, none⟩) 1 1 x.cells rfl (res_len1 x) (by simp) (after_build jsQ.so).2.1 (Res.one x) (by simp only [maxLen]; omega) (by omega) ?_; intro a6 c6 w9 hs6 hk6 hf6)
          | fail)
        have jsF := (jsQ.keep0 (after_build jsQ.so (x := x)).2.2).out (Z := [x]) rfl (by rw [cellsOf_one]; exact hs6) hk6 hf6
        exact ⟨⟨i + 1, j, O ++ [x], K, _, _, _, _, _, _, by omega, by omega, rfl, rfl, by go_num, rfl, jsF, by rw [← HJ.out.1, HDX.out, (joinO_take (Or.inl HM.out)).1, List.append_assoc]; rfl, by rw [← HJ.out.2, HDX.out, (joinO_take (how := how) (Or.inl HM.out)).2], by omega, by omega⟩, by simp [intOf]; omega⟩

    · obtain rfl : i = n := by omega
      have hL : l.drop i = [] := List.drop_eq_nil_of_le (by rw [HLL.out.1]; exact Nat.le_refl _)
      have HLE := Lib.hid hL
      clear hL
      by_cases hjp : j < p
      · obtain ⟨y, b1, o1, ey, rfl, ry0⟩ := hm.at hjp
        have hdy := drop_at ey
        have j1 : (j : Int) < p := by omega
        have j2 : ((j : Int) == p) = false := by simp; omega
        rw [HN.out] at ry0
        have ry := rangeAt_keep ry0 js.k (by simp)
        have HDY := Lib.hid hdy
        clear hdy ey
        go_upto_region 12 with fail
        refine wp_region_noPanic ?_
        refine wp_region_held_drew (S := fun W => Keep [] wr W) (by kernel_rfl) ?_ (fun hHeld0 => ?_)
        · (try dsimp only); first | exact (Keep.refl [] _).drew | exact (by assumption : Keep [] wr _).drew | exact Keep.trans' (by assumption) hk
        refine wpAnyH_take (i := 0) (oi := ({ dst := some 42, op := Go.Op.move (Go.Operand.tmp 14), type := 3, pos := "freightref8.go:140", after := #[], guard := none } : Oper)) (v := ?_) rfl (by kernel_rfl) (by kernel_rfl) (by kernel_rfl) (fun _ _ _ h => h) (Or.inl ⟨by rfl, ?_⟩) (by assumption) ?_
        rotate_left
        · (intro w hSw; (try dsimp only at hSw); go_simp; try with_reducible rfl)
        try simp only [Act.put, List.setIfInBounds_toArray, List.set_cons_zero, List.set_cons_succ]
        refine wpAnyH_take (i := 1) (oi := ({ dst := some 43, op := Go.Op.move (Go.Operand.tmp 1), type := 22, pos := "freightref8.go:140", after := #[], guard := none } : Oper)) (v := ?_) rfl (by kernel_rfl) (by kernel_rfl) (by kernel_rfl) (fun _ _ _ h => h) (Or.inl ⟨by rfl, ?_⟩) (by assumption) ?_
        rotate_left
        · (intro w hSw; (try dsimp only at hSw); go_simp; try with_reducible rfl)
        try simp only [Act.put, List.setIfInBounds_toArray, List.set_cons_zero, List.set_cons_succ]
        refine wpAnyH_take (i := 2) (oi := ({ dst := some 44, op := Go.Op.call { callee := Go.Callee.builtin Go.Builtin.len, args := #[Go.Operand.tmp 43], argTypes := #[22] }, type := 3, pos := "freightref8.go:140", after := #[{ on := 1, ground := Go.Ground.data }], guard := none } : Oper)) (v := ?_) rfl (by kernel_rfl) (by kernel_rfl) (by kernel_rfl) (fun _ _ _ h => h) (Or.inl ⟨by rfl, ?_⟩) (by assumption) ?_
        rotate_left
        · (intro w hSw; (try dsimp only at hSw); go_simp; try with_reducible rfl)
        try simp only [Act.put, List.setIfInBounds_toArray, List.set_cons_zero, List.set_cons_succ]
        refine wpAnyH_take (i := 3) (oi := ({ dst := some 45, op := Go.Op.binOp Go.BinOp.eql 3 (Go.Operand.tmp 42) (Go.Operand.tmp 44) 3, type := 4, pos := "freightref8.go:140", after := #[{ on := 0, ground := Go.Ground.data }, { on := 2, ground := Go.Ground.data }], guard := none } : Oper)) (v := ?_) rfl (by kernel_rfl) (by kernel_rfl) (by kernel_rfl) (fun _ _ _ h => h) (Or.inl ⟨by rfl, ?_⟩) (by assumption) ?_
        rotate_left
        · (intro w hSw; (try dsimp only at hSw); go_simp; try with_reducible rfl)
        try simp only [Act.put, List.setIfInBounds_toArray, List.set_cons_zero, List.set_cons_succ]
        refine wpAnyH_take (i := 4) (oi := ({ dst := some 46, op := Go.Op.move (Go.Operand.tmp 45), type := 4, pos := "freightref8.go:140", after := #[{ on := 3, ground := Go.Ground.data }], guard := none } : Oper)) (v := ?_) rfl (by kernel_rfl) (by kernel_rfl) (by kernel_rfl) (fun _ _ _ h => h) (Or.inl ⟨by rfl, ?_⟩) (by assumption) ?_
        rotate_left
        · (intro w hSw; (try dsimp only at hSw); go_simp; try with_reducible rfl)
        try simp only [Act.put, List.setIfInBounds_toArray, List.set_cons_zero, List.set_cons_succ]
        refine wpAnyH_take (i := 5) (oi := ({ dst := some 47, op := Go.Op.move (Go.Operand.tmp 13), type := 3, pos := "freightref8.go:140", after := #[{ on := 4, ground := Go.Ground.guard }], guard := some (4, false) } : Oper)) (v := ?_) rfl (by kernel_rfl) (by kernel_rfl) (by kernel_rfl) (fun _ _ _ h => h) (Or.inl ⟨by rfl, ?_⟩) (by assumption) ?_
        rotate_left
        · (intro w hSw; (try dsimp only at hSw); go_simp; try with_reducible rfl)
        try simp only [Act.put, List.setIfInBounds_toArray, List.set_cons_zero, List.set_cons_succ]
        refine wpAnyH_take (i := 6) (oi := ({ dst := some 48, op := Go.Op.move (Go.Operand.tmp 0), type := 22, pos := "freightref8.go:140", after := #[{ on := 4, ground := Go.Ground.guard }], guard := some (4, false) } : Oper)) (v := ?_) rfl (by kernel_rfl) (by kernel_rfl) (by kernel_rfl) (fun _ _ _ h => h) (Or.inl ⟨by rfl, ?_⟩) (by assumption) ?_
        rotate_left
        · (intro w hSw; (try dsimp only at hSw); go_simp; try with_reducible rfl)
        try simp only [Act.put, List.setIfInBounds_toArray, List.set_cons_zero, List.set_cons_succ]
        refine wpAnyH_take (i := 7) (oi := ({ dst := some 49, op := Go.Op.call { callee := Go.Callee.builtin Go.Builtin.len, args := #[Go.Operand.tmp 48], argTypes := #[22] }, type := 3, pos := "freightref8.go:140", after := #[{ on := 6, ground := Go.Ground.data }, { on := 4, ground := Go.Ground.guard }], guard := some (4, false) } : Oper)) (v := ?_) rfl (by kernel_rfl) (by kernel_rfl) (by kernel_rfl) (fun _ _ _ h => h) (Or.inl ⟨by rfl, ?_⟩) (by assumption) ?_
        rotate_left
        · (intro w hSw; (try dsimp only at hSw); go_simp; try with_reducible rfl)
        try simp only [Act.put, List.setIfInBounds_toArray, List.set_cons_zero, List.set_cons_succ]
        refine wpAnyH_take (i := 8) (oi := ({ dst := some 50, op := Go.Op.binOp Go.BinOp.lss 3 (Go.Operand.tmp 47) (Go.Operand.tmp 49) 3, type := 4, pos := "freightref8.go:140", after := #[{ on := 5, ground := Go.Ground.data }, { on := 7, ground := Go.Ground.data }, { on := 4, ground := Go.Ground.guard }], guard := some (4, false) } : Oper)) (v := ?_) rfl (by kernel_rfl) (by kernel_rfl) (by kernel_rfl) (fun _ _ _ h => h) (Or.inl ⟨by rfl, ?_⟩) (by assumption) ?_
        rotate_left
        · (intro w hSw; (try dsimp only at hSw); go_simp; try with_reducible rfl)
        try simp only [Act.put, List.setIfInBounds_toArray, List.set_cons_zero, List.set_cons_succ]
        refine wpAnyH_take (i := 9) (oi := ({ dst := some 51, op := Go.Op.move (Go.Operand.tmp 50), type := 4, pos := "freightref8.go:140", after := #[{ on := 8, ground := Go.Ground.data }, { on := 4, ground := Go.Ground.chain }, { on := 4, ground := Go.Ground.guard }], guard := some (4, false) } : Oper)) (v := ?_) rfl (by kernel_rfl) (by kernel_rfl) (by kernel_rfl) (fun _ _ _ h => h) (Or.inl ⟨by rfl, ?_⟩) (by assumption) ?_
        rotate_left
        · (intro w hSw; (try dsimp only at hSw); go_simp; try with_reducible rfl)
        try simp only [Act.put, List.setIfInBounds_toArray, List.set_cons_zero, List.set_cons_succ]
        refine wpAnyH_take (i := 10) (oi := ({ dst := some 52, op := Go.Op.move (Go.Operand.tmp 0), type := 22, pos := "freightref8.go:140", after := #[{ on := 9, ground := Go.Ground.guard }], guard := some (9, true) } : Oper)) (v := undef) rfl (by kernel_rfl) (by kernel_rfl) (by kernel_rfl) (fun _ _ _ h => h) (Or.inr ⟨by rfl, rfl⟩) (by assumption) ?_
        try simp only [Act.put, List.setIfInBounds_toArray, List.set_cons_zero, List.set_cons_succ]
        refine wpAnyH_take (i := 11) (oi := ({ dst := some 53, op := Go.Op.move (Go.Operand.tmp 13), type := 3, pos := "freightref8.go:140", after := #[{ on := 9, ground := Go.Ground.guard }], guard := some (9, true) } : Oper)) (v := undef) rfl (by kernel_rfl) (by kernel_rfl) (by kernel_rfl) (fun _ _ _ h => h) (Or.inr ⟨by rfl, rfl⟩) (by assumption) ?_
        try simp only [Act.put, List.setIfInBounds_toArray, List.set_cons_zero, List.set_cons_succ]
        refine wpAnyH_take (i := 12) (oi := ({ dst := some 54, op := Go.Op.indexAddr 22 (Go.Operand.tmp 52) (Go.Operand.tmp 53), type := 0, pos := "freightref8.go:140", after := #[{ on := 10, ground := Go.Ground.data }, { on := 11, ground := Go.Ground.data }, { on := 9, ground := Go.Ground.guard }], guard := some (9, true) } : Oper)) (v := undef) rfl (by kernel_rfl) (by kernel_rfl) (by kernel_rfl) (fun _ _ _ h => h) (Or.inr ⟨by rfl, rfl⟩) (by assumption) ?_
        try simp only [Act.put, List.setIfInBounds_toArray, List.set_cons_zero, List.set_cons_succ]
        refine wpAnyH_take (i := 13) (oi := ({ dst := some 55, op := Go.Op.fieldAddr 39 (Go.Operand.tmp 54) 0, type := 0, pos := "freightref8.go:140", after := #[{ on := 12, ground := Go.Ground.data }, { on := 9, ground := Go.Ground.guard }], guard := some (9, true) } : Oper)) (v := undef) rfl (by kernel_rfl) (by kernel_rfl) (by kernel_rfl) (fun _ _ _ h => h) (Or.inr ⟨by rfl, rfl⟩) (by assumption) ?_
        try simp only [Act.put, List.setIfInBounds_toArray, List.set_cons_zero, List.set_cons_succ]
        refine wpAnyH_take (i := 14) (oi := ({ dst := some 56, op := Go.Op.load 37 (Go.Operand.tmp 55), type := 37, pos := "freightref8.go:140", after := #[{ on := 13, ground := Go.Ground.data }, { on := 9, ground := Go.Ground.guard }], guard := some (9, true) } : Oper)) (v := undef) rfl (by kernel_rfl) (by kernel_rfl) (by kernel_rfl) (fun _ _ _ h => h) (Or.inr ⟨by rfl, rfl⟩) (by assumption) ?_
        try simp only [Act.put, List.setIfInBounds_toArray, List.set_cons_zero, List.set_cons_succ]
        refine wpAnyH_take (i := 15) (oi := ({ dst := some 57, op := Go.Op.move (Go.Operand.tmp 1), type := 22, pos := "freightref8.go:140", after := #[{ on := 9, ground := Go.Ground.guard }], guard := some (9, true) } : Oper)) (v := undef) rfl (by kernel_rfl) (by kernel_rfl) (by kernel_rfl) (fun _ _ _ h => h) (Or.inr ⟨by rfl, rfl⟩) (by assumption) ?_
        try simp only [Act.put, List.setIfInBounds_toArray, List.set_cons_zero, List.set_cons_succ]
        refine wpAnyH_take (i := 16) (oi := ({ dst := some 58, op := Go.Op.move (Go.Operand.tmp 14), type := 3, pos := "freightref8.go:140", after := #[{ on := 9, ground := Go.Ground.guard }], guard := some (9, true) } : Oper)) (v := undef) rfl (by kernel_rfl) (by kernel_rfl) (by kernel_rfl) (fun _ _ _ h => h) (Or.inr ⟨by rfl, rfl⟩) (by assumption) ?_
        try simp only [Act.put, List.setIfInBounds_toArray, List.set_cons_zero, List.set_cons_succ]
        refine wpAnyH_take (i := 17) (oi := ({ dst := some 59, op := Go.Op.indexAddr 22 (Go.Operand.tmp 57) (Go.Operand.tmp 58), type := 0, pos := "freightref8.go:140", after := #[{ on := 15, ground := Go.Ground.data }, { on := 16, ground := Go.Ground.data }, { on := 9, ground := Go.Ground.guard }], guard := some (9, true) } : Oper)) (v := undef) rfl (by kernel_rfl) (by kernel_rfl) (by kernel_rfl) (fun _ _ _ h => h) (Or.inr ⟨by rfl, rfl⟩) (by assumption) ?_
        try simp only [Act.put, List.setIfInBounds_toArray, List.set_cons_zero, List.set_cons_succ]
        refine wpAnyH_take (i := 18) (oi := ({ dst := some 60, op := Go.Op.fieldAddr 39 (Go.Operand.tmp 59) 0, type := 0, pos := "freightref8.go:140", after := #[{ on := 17, ground := Go.Ground.data }, { on := 9, ground := Go.Ground.guard }], guard := some (9, true) } : Oper)) (v := undef) rfl (by kernel_rfl) (by kernel_rfl) (by kernel_rfl) (fun _ _ _ h => h) (Or.inr ⟨by rfl, rfl⟩) (by assumption) ?_
        try simp only [Act.put, List.setIfInBounds_toArray, List.set_cons_zero, List.set_cons_succ]
        refine wpAnyH_take (i := 19) (oi := ({ dst := some 61, op := Go.Op.load 37 (Go.Operand.tmp 60), type := 37, pos := "freightref8.go:140", after := #[{ on := 18, ground := Go.Ground.data }, { on := 9, ground := Go.Ground.guard }], guard := some (9, true) } : Oper)) (v := undef) rfl (by kernel_rfl) (by kernel_rfl) (by kernel_rfl) (fun _ _ _ h => h) (Or.inr ⟨by rfl, rfl⟩) (by assumption) ?_
        try simp only [Act.put, List.setIfInBounds_toArray, List.set_cons_zero, List.set_cons_succ]
        refine wpAnyH_take (i := 20) (oi := ({ dst := some 62, op := Go.Op.call { callee := Go.Callee.value (Go.Operand.func 44), args := #[Go.Operand.tmp 56, Go.Operand.tmp 61], argTypes := #[37, 37] }, type := 3, pos := "freightref8.go:140", after := #[{ on := 14, ground := Go.Ground.data }, { on := 19, ground := Go.Ground.data }, { on := 9, ground := Go.Ground.chain }, { on := 9, ground := Go.Ground.guard }], guard := some (9, true) } : Oper)) (v := undef) rfl (by kernel_rfl) (by kernel_rfl) (by kernel_rfl) (fun _ _ _ h => h) (Or.inr ⟨by rfl, rfl⟩) (by assumption) ?_
        try simp only [Act.put, List.setIfInBounds_toArray, List.set_cons_zero, List.set_cons_succ]
        refine wpAnyH_take (i := 21) (oi := ({ dst := some 63, op := Go.Op.binOp Go.BinOp.lss 3 (Go.Operand.tmp 62) (Go.Operand.const (Go.Value.int Go.IntKind.i64 0)) 3, type := 4, pos := "freightref8.go:140", after := #[{ on := 20, ground := Go.Ground.data }, { on := 9, ground := Go.Ground.guard }], guard := some (9, true) } : Oper)) (v := undef) rfl (by kernel_rfl) (by kernel_rfl) (by kernel_rfl) (fun _ _ _ h => h) (Or.inr ⟨by rfl, rfl⟩) (by assumption) ?_
        try simp only [Act.put, List.setIfInBounds_toArray, List.set_cons_zero, List.set_cons_succ]
        refine wpAnyH_take (i := 22) (oi := ({ dst := some 64, op := Go.Op.pick (Go.Operand.tmp 51) (Go.Operand.tmp 63) (Go.Operand.const (Go.Value.bool false)), type := 4, pos := "freightref8.go:140", after := #[{ on := 9, ground := Go.Ground.data }, { on := 21, ground := Go.Ground.data }, { on := 4, ground := Go.Ground.guard }], guard := some (4, false) } : Oper)) (v := ?_) rfl (by kernel_rfl) (by kernel_rfl) (by kernel_rfl) (fun _ _ _ h => h) (Or.inl ⟨by rfl, ?_⟩) (by assumption) ?_
        rotate_left
        · (intro w hSw; (try dsimp only at hSw); go_simp; try with_reducible rfl)
        try simp only [Act.put, List.setIfInBounds_toArray, List.set_cons_zero, List.set_cons_succ]
        refine wpAnyH_take (i := 23) (oi := ({ dst := some 65, op := Go.Op.pick (Go.Operand.tmp 46) (Go.Operand.const (Go.Value.bool true)) (Go.Operand.tmp 64), type := 4, pos := "freightref8.go:140", after := #[{ on := 4, ground := Go.Ground.data }, { on := 22, ground := Go.Ground.data }], guard := none } : Oper)) (v := ?_) rfl (by kernel_rfl) (by kernel_rfl) (by kernel_rfl) (fun _ _ _ h => h) (Or.inl ⟨by rfl, ?_⟩) (by assumption) ?_
        rotate_left
        · (intro w hSw; (try dsimp only at hSw); go_simp; try with_reducible rfl)
        try simp only [Act.put, List.setIfInBounds_toArray, List.set_cons_zero, List.set_cons_succ]
        refine wpAnyH_done (by kernel_rfl) ?_ _
        refine NoPanic.normal ?_
        have hR0 := (by assumption : Keep [] wr _)
        go_upto_region 15 with fail
        refine wp_region_noPanic ?_
        refine wp_region_held_drew (S := fun W => Keep [] wr W) (by kernel_rfl) ?_ (fun hHeld0 => ?_)
        · (try dsimp only); first | exact (Keep.refl [] _).drew | exact (by assumption : Keep [] wr _).drew | exact Keep.trans' (by assumption) hk
        refine wpAnyH_take (i := 0) (oi := ({ dst := some 75, op := Go.Op.move (Go.Operand.tmp 13), type := 3, pos := "freightref8.go:145", after := #[], guard := none } : Oper)) (v := ?_) rfl (by kernel_rfl) (by kernel_rfl) (by kernel_rfl) (fun _ _ _ h => h) (Or.inl ⟨by rfl, ?_⟩) (by assumption) ?_
        rotate_left
        · (intro w hSw; (try dsimp only at hSw); go_simp; try with_reducible rfl)
        try simp only [Act.put, List.setIfInBounds_toArray, List.set_cons_zero, List.set_cons_succ]
        refine wpAnyH_take (i := 1) (oi := ({ dst := some 76, op := Go.Op.move (Go.Operand.tmp 0), type := 22, pos := "freightref8.go:145", after := #[], guard := none } : Oper)) (v := ?_) rfl (by kernel_rfl) (by kernel_rfl) (by kernel_rfl) (fun _ _ _ h => h) (Or.inl ⟨by rfl, ?_⟩) (by assumption) ?_
        rotate_left
        · (intro w hSw; (try dsimp only at hSw); go_simp; try with_reducible rfl)
        try simp only [Act.put, List.setIfInBounds_toArray, List.set_cons_zero, List.set_cons_succ]
        refine wpAnyH_take (i := 2) (oi := ({ dst := some 77, op := Go.Op.call { callee := Go.Callee.builtin Go.Builtin.len, args := #[Go.Operand.tmp 76], argTypes := #[22] }, type := 3, pos := "freightref8.go:145", after := #[{ on := 1, ground := Go.Ground.data }], guard := none } : Oper)) (v := ?_) rfl (by kernel_rfl) (by kernel_rfl) (by kernel_rfl) (fun _ _ _ h => h) (Or.inl ⟨by rfl, ?_⟩) (by assumption) ?_
        rotate_left
        · (intro w hSw; (try dsimp only at hSw); go_simp; try with_reducible rfl)
        try simp only [Act.put, List.setIfInBounds_toArray, List.set_cons_zero, List.set_cons_succ]
        refine wpAnyH_take (i := 3) (oi := ({ dst := some 78, op := Go.Op.binOp Go.BinOp.eql 3 (Go.Operand.tmp 75) (Go.Operand.tmp 77) 3, type := 4, pos := "freightref8.go:145", after := #[{ on := 0, ground := Go.Ground.data }, { on := 2, ground := Go.Ground.data }], guard := none } : Oper)) (v := ?_) rfl (by kernel_rfl) (by kernel_rfl) (by kernel_rfl) (fun _ _ _ h => h) (Or.inl ⟨by rfl, ?_⟩) (by assumption) ?_
        rotate_left
        · (intro w hSw; (try dsimp only at hSw); go_simp; try with_reducible rfl)
        try simp only [Act.put, List.setIfInBounds_toArray, List.set_cons_zero, List.set_cons_succ]
        refine wpAnyH_take (i := 4) (oi := ({ dst := some 79, op := Go.Op.move (Go.Operand.tmp 78), type := 4, pos := "freightref8.go:145", after := #[{ on := 3, ground := Go.Ground.data }], guard := none } : Oper)) (v := ?_) rfl (by kernel_rfl) (by kernel_rfl) (by kernel_rfl) (fun _ _ _ h => h) (Or.inl ⟨by rfl, ?_⟩) (by assumption) ?_
        rotate_left
        · (intro w hSw; (try dsimp only at hSw); go_simp; try with_reducible rfl)
        try simp only [Act.put, List.setIfInBounds_toArray, List.set_cons_zero, List.set_cons_succ]
        refine wpAnyH_take (i := 5) (oi := ({ dst := some 80, op := Go.Op.move (Go.Operand.tmp 0), type := 22, pos := "freightref8.go:145", after := #[{ on := 4, ground := Go.Ground.guard }], guard := some (4, false) } : Oper)) (v := undef) rfl (by kernel_rfl) (by kernel_rfl) (by kernel_rfl) (fun _ _ _ h => h) (Or.inr ⟨by rfl, rfl⟩) (by assumption) ?_
        try simp only [Act.put, List.setIfInBounds_toArray, List.set_cons_zero, List.set_cons_succ]
        refine wpAnyH_take (i := 6) (oi := ({ dst := some 81, op := Go.Op.move (Go.Operand.tmp 13), type := 3, pos := "freightref8.go:145", after := #[{ on := 4, ground := Go.Ground.guard }], guard := some (4, false) } : Oper)) (v := undef) rfl (by kernel_rfl) (by kernel_rfl) (by kernel_rfl) (fun _ _ _ h => h) (Or.inr ⟨by rfl, rfl⟩) (by assumption) ?_
        try simp only [Act.put, List.setIfInBounds_toArray, List.set_cons_zero, List.set_cons_succ]
        refine wpAnyH_take (i := 7) (oi := ({ dst := some 82, op := Go.Op.indexAddr 22 (Go.Operand.tmp 80) (Go.Operand.tmp 81), type := 0, pos := "freightref8.go:145", after := #[{ on := 5, ground := Go.Ground.data }, { on := 6, ground := Go.Ground.data }, { on := 4, ground := Go.Ground.guard }], guard := some (4, false) } : Oper)) (v := undef) rfl (by kernel_rfl) (by kernel_rfl) (by kernel_rfl) (fun _ _ _ h => h) (Or.inr ⟨by rfl, rfl⟩) (by assumption) ?_
        try simp only [Act.put, List.setIfInBounds_toArray, List.set_cons_zero, List.set_cons_succ]
        refine wpAnyH_take (i := 8) (oi := ({ dst := some 83, op := Go.Op.fieldAddr 39 (Go.Operand.tmp 82) 0, type := 0, pos := "freightref8.go:145", after := #[{ on := 7, ground := Go.Ground.data }, { on := 4, ground := Go.Ground.guard }], guard := some (4, false) } : Oper)) (v := undef) rfl (by kernel_rfl) (by kernel_rfl) (by kernel_rfl) (fun _ _ _ h => h) (Or.inr ⟨by rfl, rfl⟩) (by assumption) ?_
        try simp only [Act.put, List.setIfInBounds_toArray, List.set_cons_zero, List.set_cons_succ]
        refine wpAnyH_take (i := 9) (oi := ({ dst := some 84, op := Go.Op.load 37 (Go.Operand.tmp 83), type := 37, pos := "freightref8.go:145", after := #[{ on := 8, ground := Go.Ground.data }, { on := 4, ground := Go.Ground.guard }], guard := some (4, false) } : Oper)) (v := undef) rfl (by kernel_rfl) (by kernel_rfl) (by kernel_rfl) (fun _ _ _ h => h) (Or.inr ⟨by rfl, rfl⟩) (by assumption) ?_
        try simp only [Act.put, List.setIfInBounds_toArray, List.set_cons_zero, List.set_cons_succ]
        refine wpAnyH_take (i := 10) (oi := ({ dst := some 85, op := Go.Op.move (Go.Operand.tmp 1), type := 22, pos := "freightref8.go:145", after := #[{ on := 4, ground := Go.Ground.guard }], guard := some (4, false) } : Oper)) (v := undef) rfl (by kernel_rfl) (by kernel_rfl) (by kernel_rfl) (fun _ _ _ h => h) (Or.inr ⟨by rfl, rfl⟩) (by assumption) ?_
        try simp only [Act.put, List.setIfInBounds_toArray, List.set_cons_zero, List.set_cons_succ]
        refine wpAnyH_take (i := 11) (oi := ({ dst := some 86, op := Go.Op.move (Go.Operand.tmp 14), type := 3, pos := "freightref8.go:145", after := #[{ on := 4, ground := Go.Ground.guard }], guard := some (4, false) } : Oper)) (v := undef) rfl (by kernel_rfl) (by kernel_rfl) (by kernel_rfl) (fun _ _ _ h => h) (Or.inr ⟨by rfl, rfl⟩) (by assumption) ?_
        try simp only [Act.put, List.setIfInBounds_toArray, List.set_cons_zero, List.set_cons_succ]
        refine wpAnyH_take (i := 12) (oi := ({ dst := some 87, op := Go.Op.indexAddr 22 (Go.Operand.tmp 85) (Go.Operand.tmp 86), type := 0, pos := "freightref8.go:145", after := #[{ on := 10, ground := Go.Ground.data }, { on := 11, ground := Go.Ground.data }, { on := 4, ground := Go.Ground.guard }], guard := some (4, false) } : Oper)) (v := undef) rfl (by kernel_rfl) (by kernel_rfl) (by kernel_rfl) (fun _ _ _ h => h) (Or.inr ⟨by rfl, rfl⟩) (by assumption) ?_
        try simp only [Act.put, List.setIfInBounds_toArray, List.set_cons_zero, List.set_cons_succ]
        refine wpAnyH_take (i := 13) (oi := ({ dst := some 88, op := Go.Op.fieldAddr 39 (Go.Operand.tmp 87) 0, type := 0, pos := "freightref8.go:145", after := #[{ on := 12, ground := Go.Ground.data }, { on := 4, ground := Go.Ground.guard }], guard := some (4, false) } : Oper)) (v := undef) rfl (by kernel_rfl) (by kernel_rfl) (by kernel_rfl) (fun _ _ _ h => h) (Or.inr ⟨by rfl, rfl⟩) (by assumption) ?_
        try simp only [Act.put, List.setIfInBounds_toArray, List.set_cons_zero, List.set_cons_succ]
        refine wpAnyH_take (i := 14) (oi := ({ dst := some 89, op := Go.Op.load 37 (Go.Operand.tmp 88), type := 37, pos := "freightref8.go:145", after := #[{ on := 13, ground := Go.Ground.data }, { on := 4, ground := Go.Ground.guard }], guard := some (4, false) } : Oper)) (v := undef) rfl (by kernel_rfl) (by kernel_rfl) (by kernel_rfl) (fun _ _ _ h => h) (Or.inr ⟨by rfl, rfl⟩) (by assumption) ?_
        try simp only [Act.put, List.setIfInBounds_toArray, List.set_cons_zero, List.set_cons_succ]
        refine wpAnyH_take (i := 15) (oi := ({ dst := some 90, op := Go.Op.call { callee := Go.Callee.value (Go.Operand.func 44), args := #[Go.Operand.tmp 84, Go.Operand.tmp 89], argTypes := #[37, 37] }, type := 3, pos := "freightref8.go:145", after := #[{ on := 9, ground := Go.Ground.data }, { on := 14, ground := Go.Ground.data }, { on := 4, ground := Go.Ground.chain }, { on := 4, ground := Go.Ground.guard }], guard := some (4, false) } : Oper)) (v := undef) rfl (by kernel_rfl) (by kernel_rfl) (by kernel_rfl) (fun _ _ _ h => h) (Or.inr ⟨by rfl, rfl⟩) (by assumption) ?_
        try simp only [Act.put, List.setIfInBounds_toArray, List.set_cons_zero, List.set_cons_succ]
        refine wpAnyH_take (i := 16) (oi := ({ dst := some 91, op := Go.Op.binOp Go.BinOp.gtr 3 (Go.Operand.tmp 90) (Go.Operand.const (Go.Value.int Go.IntKind.i64 0)) 3, type := 4, pos := "freightref8.go:145", after := #[{ on := 15, ground := Go.Ground.data }, { on := 4, ground := Go.Ground.guard }], guard := some (4, false) } : Oper)) (v := undef) rfl (by kernel_rfl) (by kernel_rfl) (by kernel_rfl) (fun _ _ _ h => h) (Or.inr ⟨by rfl, rfl⟩) (by assumption) ?_
        try simp only [Act.put, List.setIfInBounds_toArray, List.set_cons_zero, List.set_cons_succ]
        refine wpAnyH_take (i := 17) (oi := ({ dst := some 92, op := Go.Op.pick (Go.Operand.tmp 79) (Go.Operand.const (Go.Value.bool true)) (Go.Operand.tmp 91), type := 4, pos := "freightref8.go:145", after := #[{ on := 4, ground := Go.Ground.data }, { on := 16, ground := Go.Ground.data }], guard := none } : Oper)) (v := ?_) rfl (by kernel_rfl) (by kernel_rfl) (by kernel_rfl) (fun _ _ _ h => h) (Or.inl ⟨by rfl, ?_⟩) (by assumption) ?_
        rotate_left
        · (intro w hSw; (try dsimp only at hSw); go_simp; try with_reducible rfl)
        try simp only [Act.put, List.setIfInBounds_toArray, List.set_cons_zero, List.set_cons_succ]
        refine wpAnyH_done (by kernel_rfl) ?_ _
        refine NoPanic.normal ?_
        have hR := (by assumption : Keep [] wr _)
        have jsQ := js.keep0 hR
        have ryQ := rangeAt_keep ry hR (by simp)
        go_wp2_with (first
          | (refine wpList_load_mid rfl 39 (.tmp 96) rfl _ _ rfl y.cells _ ryQ Try.underlying39 rfl (hi39 y) ?_)
          | (refine wpList_build1 rfl 22 39 (.tmp 97) rfl y.cells.toArray rfl (.agg Try.zeroCells39) 65 72 Try.underlying22 info39 (by simp [Res.len]) (by omega) (by omega) ?_)
          | (at_builtin; refine wpList_appendN rfl (.tmp 93) (.tmp 98) 22 rfl 39 (.agg Try.zeroCells39) 65 72 Try.underlying22 info39 zero39 (by omega) (.slice ao nO co) nO (cellsOf O) rfl (after_build jsQ.so).1 (some ⟨_, 0, none⟩) 1 1 y.cells rfl (res_len1 y) (by simp) (after_build jsQ.so).2.1 (Res.one y) (by simp only [maxLen]; omega) (by omega) ?_; intro a6 c6 w9 hs6 hk6 hf6)
          | fail)
        have jsF := (jsQ.keep0 (after_build jsQ.so (x := y)).2.2).out (Z := [y]) rfl (by rw [cellsOf_one]; exact hs6) hk6 hf6
        exact ⟨⟨i, j + 1, O ++ [y], K, _, _, _, _, _, _, by omega, by omega, rfl, rfl, rfl, by go_num, jsF, by rw [← HJ.out.1, HDY.out, (joinO_give (Or.inl HLE.out)).1, List.append_assoc]; rfl, by rw [← HJ.out.2, HDY.out, (joinO_give (how := how) (Or.inl HLE.out)).2], by omega, by omega⟩, by simp [intOf]; omega⟩

      · obtain rfl : j = p := by omega
        have hM : m.drop j = [] := List.drop_eq_nil_of_le (by rw [HLL.out.2]; exact Nat.le_refl _)
        have HJO : O = joinO how l m := by rw [← HJ.out.1, HLE.out, hM, joinO_nil]; simp
        have HJK : K = joinK l m := by rw [← HJ.out.2, HLE.out, hM, joinK_nil]; simp
        have HE := Lib.hid (And.intro HJO (And.intro HJK (And.intro (show (joinO how l m).length = nO by rw [← HJO, js.hO]) (show (joinK l m).length = nK by rw [← HJK, js.hK]))))
        have HVV := Lib.hid (And.intro HV.out HV2.out)
        clear hM HJO HJK
        by_cases hk0 : how = 3 ∧ joinK l m ≠ []
        · have HG := Lib.hid (join_clash HK.out HVV.out hk0)
          have q3 : (how == 3) = true := by simp [hk0.1]
          have qk : (0 : Int) < nK := by have := List.length_pos_iff.2 hk0.2; have := HE.out.2.2.2; omega
          clear hk0
          go_wp2_with fail
          go_returns
          rw [HG.out.1, HG.out.2.1, HG.out.2.2]
          exact GiveJ.give rfl HE.out.2.2.2 (Sl.nil _ _ _) (by rw [← HE.out.2.1]; exact js.sk) (by intro b hb; simp [blks, Value.ownBlock] at hb) js.fk js.k
        · have HN3 := Lib.hid hk0
          have hq : (how == 3) = false ∨ ((how == 3) = true ∧ ¬ (0 : Int) < nK) := by
            by_cases h3 : how = 3
            · right; refine ⟨by simp [h3], ?_⟩; have h4 : joinK l m = [] := Classical.byContradiction fun h => hk0 ⟨h3, h⟩; have := HE.out.2.2.2; rw [h4] at this; simp at this; omega
            · left; simp [h3]
          clear hk0
          by_cases h32 : 32 < nO
          · have HG := Lib.hid (join_long HK.out HVV.out HN3.out (by rw [HE.out.2.2.1]; exact h32))
            have qt : (32 : Int) < nO := by omega
            clear h32
            rcases hq with q3 | ⟨q3, qk⟩
            all_goals (go_wp2_with fail; go_returns; rw [HG.out.1, HG.out.2.1, HG.out.2.2]; exact GiveJ.none js.k)
          · have HG := Lib.hid (join_yes HK.out HVV.out HN3.out (by rw [HE.out.2.2.1]; exact h32))
            have qt : ¬ (32 : Int) < nO := by omega
            clear h32
            rcases hq with q3 | ⟨q3, qk⟩
            all_goals (go_wp2_with fail; go_returns; rw [HG.out.1, HG.out.2.1, HG.out.2.2]; exact GiveJ.give HE.out.2.2.1 HE.out.2.2.2 (by rw [← HE.out.1]; exact js.so) (by rw [← HE.out.2.1]; exact js.sk) js.fo js.fk js.k)
end Go.Proofs.Ytjdkeabimcajlaa

/- DigestOrders: the walk. -/
import Derived.Test.YtlpinbkgbnbkhaaX
import Derived.Test.YtlpinbkgbnbkhaaCm
import Derived.Test.YtlpinbkgbnbkhaaOd
import Derived.Test.YtlpinbkgbnbkhaaOi
set_option linter.unusedVariables false
set_option linter.unusedSimpArgs false
namespace Go.Proofs.Ytlpinbkgbnbkhaa
open Go.RowKit

set_option maxHeartbeats 8000000 in
set_option maxRecDepth 100000 in
theorem digestOrders_walk (xa xb xc : List UInt8) (w : World) (ha : xa.length = 32) (hb : xb.length = 32) (hc : xc.length = 32) :
    Calls Try.prog 11 #[.agg (bs xa).toArray, .agg (bs xb).toArray, .agg (bs xc).toArray] w fun e w' => e = .returned (.bool true) ∧ Keep [] w w' := by
  obtain ⟨A, hA⟩ : ∃ X, (bs xa).toArray = X := ⟨_, rfl⟩
  obtain ⟨B, hB⟩ : ∃ X, (bs xb).toArray = X := ⟨_, rfl⟩
  obtain ⟨C, hC⟩ : ∃ X, (bs xc).toArray = X := ⟨_, rfl⟩
  have sA : A.size = 32 := by rw [← hA]; exact size32 xa ha
  have sB : B.size = 32 := by rw [← hB]; exact size32 xb hb
  have sC : C.size = 32 := by rw [← hC]; exact size32 xc hc
  obtain ⟨x, hx⟩ : ∃ x, Lib.compareBytes xa xb = x := ⟨_, rfl⟩
  obtain ⟨y, hy⟩ : ∃ y, Lib.compareBytes xb xc = y := ⟨_, rfl⟩
  obtain ⟨z, hz⟩ : ∃ z, Lib.compareBytes xa xc = z := ⟨_, rfl⟩
  have cAB := Lib.hid (fun (W : World) => compare_any xa xb W ha hb)
  have cBC := Lib.hid (fun (W : World) => compare_any xb xc W hb hc)
  have cAC := Lib.hid (fun (W : World) => compare_any xa xc W ha hc)
  have cBA := Lib.hid (fun (W : World) => compare_any xb xa W hb ha)
  have rAB := Lib.hid (fun (W : World) => order_any xa xb W ha hb)
  rw [hx, hA, hB] at cAB rAB
  rw [hy, hB, hC] at cBC
  rw [hz, hA, hC] at cAC
  rw [cmp_turn xa xb, hx, hA, hB] at cBA
  have tz := cmp_trans xa xb xc
  rw [hx, hy, hz] at tz
  have eqAB : ∀ W, (Op.equalIn 10000 33 (.agg A) (.agg B)).run Try.prog W = .ok (x == 0) W := fun W => by
    have := run_equalIn_bytes (P := Try.prog) W 9998 33 5 32 Try.underlying33 Try.underlying5 (fun w => Try.sizeOf5 w) xa xb ha hb
    have e : (xa == xb) = (x == 0) := by
      rw [Bool.eq_iff_iff, beq_iff_eq, beq_iff_eq, ← hx]; exact (cmp_zero xa xb).symm
    rw [e, show xa.map Extern.Stop.cell = bs xa from rfl, show xb.map Extern.Stop.cell = bs xb from rfl, hA, hB] at this
    exact this
  have xr := cmp_range xa xb
  rw [hx] at xr
  have HSA := Lib.hid sA
  have HSB := Lib.hid sB
  have HSC := Lib.hid sC
  have HA := Lib.hid hA
  have HB := Lib.hid hB
  have HC := Lib.hid hC
  have HX := Lib.hid hx
  have HXR := Lib.hid xr
  have HTZ := Lib.hid tz
  rw [hA, hB, hC]
  clear sA sB sC hA hB hC hx hy hz tz xr
  go_enter Try.func11, Try.ntmps11
  obtain ⟨W0, hW0⟩ : ∃ W0, ((w.alloc (.cells A 33)).alloc (.cells B 33)).alloc (.cells C 33) = W0 := ⟨_, rfl⟩
  have bA : Blk W0 w.heap.size A 33 := by rw [← hW0]; exact ((Blk.new w A 33).alloc _).alloc _
  have bB : Blk W0 (w.heap.size + 1) B 33 := by rw [← hW0]; exact (Blk.new' _ B 33 (by simp)).alloc _
  have bC : Blk W0 (w.heap.size + 2) C 33 := by rw [← hW0]; exact Blk.new' _ C 33 (by simp)
  have k0 : Keep [] w W0 := by rw [← hW0]; exact (((Keep.refl [] w).alloc _).alloc _).alloc _
  go_upto_region 1 with fail
  clear hW0
  obtain ⟨PA, hPA⟩ : ∃ P, w.heap.size = P := ⟨_, rfl⟩
  obtain ⟨PB, hPB⟩ : ∃ P, PA + 1 = P := ⟨_, rfl⟩
  obtain ⟨PC, hPC⟩ : ∃ P, PB + 1 = P := ⟨_, rfl⟩
  have bC : Blk W0 (w.heap.size + 1 + 1) C 33 := bC
  rw [hPA] at bA bB bC ⊢
  rw [hPB] at bB bC ⊢
  rw [hPC] at bC ⊢
  clear hPA hPB hPC
  have wx : IntKind.i64.wrap (-x) = -x := by have := HXR.out; exact IntWalk.i64_in _ (by omega)
  go_upto_region 2 with (first
    | (refine wpList_load_row rfl 33 (.tmp 3) rfl PA rfl 33 A (0, 0) _ bA Try.underlying33 rfl (by rw [HSA.out]; rfl) ?_)
    | (refine wpList_load_row rfl 33 (.tmp 4) rfl PB rfl 33 B (0, 0) _ bB Try.underlying33 rfl (by rw [HSB.out]; rfl) ?_)
    | (go_at_call 32; refine (cAB.out _).mono ?_; rintro e w1 ⟨rfl, hk1⟩)
    | fail)
  have bA1 := bA.keep hk1 (by simp)
  have bB1 := bB.keep hk1 (by simp)
  have bC1 := bC.keep hk1 (by simp)
  have k1 := k0.trans' hk1
  clear bA bB bC hk1 k0
  go_upto_region 3 with (first
    | (refine wpList_load_row rfl 33 (.tmp 4) rfl PB rfl 33 B (0, 0) _ bB1 Try.underlying33 rfl (by rw [HSB.out]; rfl) ?_)
    | (refine wpList_load_row rfl 33 (.tmp 5) rfl PC rfl 33 C (0, 0) _ bC1 Try.underlying33 rfl (by rw [HSC.out]; rfl) ?_)
    | (go_at_call 32; refine (cBC.out _).mono ?_; rintro e w2 ⟨rfl, hk2⟩)
    | fail)
  have bA2 := bA1.keep hk2 (by simp)
  have bB2 := bB1.keep hk2 (by simp)
  have bC2 := bC1.keep hk2 (by simp)
  have k2 := k1.trans' hk2
  clear bA1 bB1 bC1 hk2 k1
  go_upto_region 5 with (first
    | (go_at_call 13; refine (known_any _).mono ?_; rintro e w3 ⟨rfl, hk3⟩
       have bA3 := bA2.keep hk3 (by simp)
       have bB3 := bB2.keep hk3 (by simp)
       have bC3 := bC2.keep hk3 (by simp)
       have k3 := k2.trans' hk3)
    | (go_at_call 33; refine (rAB.out _).mono ?_; rintro e w4 ⟨rfl, hk4⟩
       have bA4 := bA3.keep hk4 (by simp)
       have bB4 := bB3.keep hk4 (by simp)
       have bC4 := bC3.keep hk4 (by simp)
       have k4 := k3.trans' hk4)
    | (go_at_call 32; refine (cBA.out _).mono ?_; rintro e w5 ⟨rfl, hk5⟩
       have bA5 := bA4.keep hk5 (by simp)
       have bB5 := bB4.keep hk5 (by simp)
       have bC5 := bC4.keep hk5 (by simp)
       have k5 := k4.trans' hk5)
    | (refine wpList_load_row_w 33 (.tmp 3) rfl rfl PA rfl 33 A (0, 0) _ bA5 Try.underlying33 rfl (by rw [HSA.out]; rfl) ?_)
    | (refine wpList_load_row_w 33 (.tmp 4) rfl rfl PB rfl 33 B (0, 0) _ bB5 Try.underlying33 rfl (by rw [HSB.out]; rfl) ?_)
    | (refine wpList_load_row_w 33 (.tmp 4) rfl rfl PB rfl 33 B (0, 0) _ bB4 Try.underlying33 rfl (by rw [HSB.out]; rfl) ?_)
    | (refine wpList_load_row_w 33 (.tmp 3) rfl rfl PA rfl 33 A (0, 0) _ bA4 Try.underlying33 rfl (by rw [HSA.out]; rfl) ?_)
    | (refine wpList_load_row_w 33 (.tmp 3) rfl rfl PA rfl 33 A (0, 0) _ bA3 Try.underlying33 rfl (by rw [HSA.out]; rfl) ?_)
    | (refine wpList_load_row_w 33 (.tmp 4) rfl rfl PB rfl 33 B (0, 0) _ bB3 Try.underlying33 rfl (by rw [HSB.out]; rfl) ?_)
    | fail)
  have hexA := Lib.hid (fun (W : World) => hex_any xa W ha)
  have hexB := Lib.hid (fun (W : World) => hex_any xb W hb)
  have hless := less_hex xa xb (by rw [ha, hb])
  rw [HX.out] at hless
  obtain ⟨SA, hSA⟩ : ∃ S, strOf (hexOf xa) = S := ⟨_, rfl⟩
  obtain ⟨SB, hSB⟩ : ∃ S, strOf (hexOf xb) = S := ⟨_, rfl⟩
  have lA : SA.toList = hexOf xa := by rw [← hSA, ByteArray.toList_eq]; rfl
  have lB : SB.toList = hexOf xb := by rw [← hSB, ByteArray.toList_eq]; rfl
  rw [← lA, ← lB] at hless
  rw [hSA] at hexA
  rw [hSB] at hexB
  have HLA := Lib.hid lA
  have HLB := Lib.hid lB
  have hu := Try.underlying33
  have hi1 : (Try.prog.info? 33).map (·.size) = some (bs xa).length := by rw [bs_length, ha]; rfl
  have hi2 : (Try.prog.info? 33).map (·.size) = some (bs xb).length := by rw [bs_length, hb]; rfl
  have hway : (¬ x ≤ 0) ∨ (x ≤ 0 ∧ ¬ y ≤ 0) ∨ (x ≤ 0 ∧ y ≤ 0 ∧ ¬ 0 < z) := by
    have := HTZ.out
    by_cases h1 : x ≤ 0
    · by_cases h2 : y ≤ 0
      · exact Or.inr (Or.inr ⟨h1, h2, by have := this h1 h2; omega⟩)
      · exact Or.inr (Or.inl ⟨h1, h2⟩)
    · exact Or.inl h1
  clear lA lB hSA hSB ha hb hc eqAB wx
  rcases hway with g1 | ⟨g1, g2⟩ | ⟨g1, g2, g3⟩
  all_goals
    go_upto_region 7 with (first
      | (refine wpList_load_row_w 33 (.tmp 3) rfl rfl PA rfl 33 A (0, 0) _ bA5 Try.underlying33 rfl (by rw [HSA.out]; rfl) ?_)
      | (refine wpList_load_row_w 33 (.tmp 5) rfl rfl PC rfl 33 C (0, 0) _ bC5 Try.underlying33 rfl (by rw [HSC.out]; rfl) ?_)
      | (go_at_call 32; refine (cAC.out _).mono ?_; rintro e w6 ⟨rfl, hk6⟩)
      | fail)
  all_goals
    first
      | (have k8 := k5.trans' hk6; have bA8 := bA5.keep hk6 (by simp); have bB8 := bB5.keep hk6 (by simp); generalize w6 = W8 at k8 bA8 bB8 ⊢)
      | (have k8 := k5; have bA8 := bA5; have bB8 := bB5; generalize w5 = W8 at k8 bA8 bB8 ⊢)
    rw [← HA.out] at bA8
    rw [← HB.out] at bB8
    have hS8 : W8.rangeAt PA 0 (bs xa) ∧ W8.rangeAt PB 0 (bs xb) ∧ Keep [] W8 W8 := ⟨rangeAt_of_blk bA8, rangeAt_of_blk bB8, Keep.refl _ _⟩
    clear bA8 bB8
    refine wp_region_noPanic ?_
    refine wp_region_held_drew (S := fun w' => w'.rangeAt PA 0 (bs xa) ∧ w'.rangeAt PB 0 (bs xb) ∧ Keep [] W8 w') (by kernel_rfl) ?_ (fun hHeld0 => ?_)
    · (try dsimp only); first | exact held2 hS8 ((Keep.refl [] _).drew) | exact held2 (by assumption) hk
    refine wpAnyH_take (i := 0) (oi := ({ dst := some 52, op := Go.Op.move (Go.Operand.tmp 7), type := 3, pos := "law.go:193", after := #[], guard := none } : Oper)) (v := ?_) rfl (by kernel_rfl) (by kernel_rfl) (by kernel_rfl) (fun _ _ _ h => h) (Or.inl ⟨by rfl, ?_⟩) (by assumption) ?_
    rotate_left
    · (intro w hSw; (try dsimp only at hSw); go_simp; try with_reducible rfl)
    try simp only [Act.put, List.setIfInBounds_toArray, List.set_cons_zero, List.set_cons_succ]
    refine wpAnyH_take (i := 1) (oi := ({ dst := some 53, op := Go.Op.binOp Go.BinOp.lss 3 (Go.Operand.tmp 52) (Go.Operand.const (Go.Value.int Go.IntKind.i64 0)) 3, type := 4, pos := "law.go:193", after := #[{ on := 0, ground := Go.Ground.data }], guard := none } : Oper)) (v := ?_) rfl (by kernel_rfl) (by kernel_rfl) (by kernel_rfl) (fun _ _ _ h => h) (Or.inl ⟨by rfl, ?_⟩) (by assumption) ?_
    rotate_left
    · (intro w hSw; (try dsimp only at hSw); go_simp; try with_reducible rfl)
    try simp only [Act.put, List.setIfInBounds_toArray, List.set_cons_zero, List.set_cons_succ]
    refine wpAnyH_take (i := 2) (oi := ({ dst := some 54, op := Go.Op.load 33 (Go.Operand.tmp 3), type := 33, pos := "law.go:193", after := #[], guard := none } : Oper)) (v := .agg (List.toArray (bs xa))) rfl (by kernel_rfl) (by kernel_rfl) (by kernel_rfl) (fun _ _ _ h => h) (yieldsIf_load_mid (by rfl) _ _ rfl _ _ rfl (bs xa) _ (fun w hSw => hSw.1) hu rfl hi1) (by assumption) ?_
    try simp only [Act.put, List.setIfInBounds_toArray, List.set_cons_zero, List.set_cons_succ]
    refine wpAnyH_take (i := 4) (oi := ({ dst := some 56, op := Go.Op.load 33 (Go.Operand.tmp 4), type := 33, pos := "law.go:193", after := #[], guard := none } : Oper)) (v := .agg (List.toArray (bs xb))) rfl (by kernel_rfl) (by kernel_rfl) (by kernel_rfl) (fun _ _ _ h => h) (yieldsIf_load_mid (by rfl) _ _ rfl _ _ rfl (bs xb) _ (fun w hSw => hSw.2.1) hu rfl hi2) (by assumption) ?_
    try simp only [Act.put, List.setIfInBounds_toArray, List.set_cons_zero, List.set_cons_succ]
    refine wpAnyH_ready (rs := [3]) (by kernel_rfl) (by simp) ?_
    refine (AllReadyH.cons (o := ({ dst := some 55, op := Go.Op.call { callee := Go.Callee.value (Go.Operand.func 23), args := #[Go.Operand.tmp 54], argTypes := #[33] }, type := 9, pos := "law.go:193", after := #[{ on := 2, ground := Go.Ground.data }], guard := none } : Oper)) rfl (fun K hK => ?_) AllReadyH.nil)
    go_simp
    (refine (hexA.out _).mono ?_; rintro e w' ⟨rfl, hk⟩)
    go_wp2_with fail
    refine hK.out _ _ ?_ (fun hHeld1 => ?_)
    · (try dsimp only); first | exact held2 hS8 ((Keep.refl [] _).drew) | exact held2 (by assumption) hk
    clear hK K
    try simp only [Act.put, List.setIfInBounds_toArray, List.set_cons_zero, List.set_cons_succ]
    refine wpAnyH_ready (rs := [5]) (by kernel_rfl) (by simp) ?_
    refine (AllReadyH.cons (o := ({ dst := some 57, op := Go.Op.call { callee := Go.Callee.value (Go.Operand.func 23), args := #[Go.Operand.tmp 56], argTypes := #[33] }, type := 9, pos := "law.go:193", after := #[{ on := 4, ground := Go.Ground.data }, { on := 3, ground := Go.Ground.chain }], guard := none } : Oper)) rfl (fun K hK => ?_) AllReadyH.nil)
    go_simp
    (refine (hexB.out _).mono ?_; rintro e w' ⟨rfl, hk⟩)
    go_wp2_with fail
    refine hK.out _ _ ?_ (fun hHeld2 => ?_)
    · (try dsimp only); first | exact held2 hS8 ((Keep.refl [] _).drew) | exact held2 (by assumption) hk
    clear hK K
    try simp only [Act.put, List.setIfInBounds_toArray, List.set_cons_zero, List.set_cons_succ]
    refine wpAnyH_take (i := 6) (oi := ({ dst := some 58, op := Go.Op.binOp Go.BinOp.lss 9 (Go.Operand.tmp 55) (Go.Operand.tmp 57) 9, type := 4, pos := "law.go:193", after := #[{ on := 3, ground := Go.Ground.data }, { on := 5, ground := Go.Ground.data }], guard := none } : Oper)) (v := ?_) rfl (by kernel_rfl) (by kernel_rfl) (by kernel_rfl) (fun _ _ _ h => h) (Or.inl ⟨by rfl, ?_⟩) (by assumption) ?_
    rotate_left
    · (intro w hSw; (try dsimp only at hSw); go_simp; try with_reducible rfl)
    try simp only [Act.put, List.setIfInBounds_toArray, List.set_cons_zero, List.set_cons_succ]
    refine wpAnyH_take (i := 7) (oi := ({ dst := some 59, op := Go.Op.binOp Go.BinOp.eql 4 (Go.Operand.tmp 53) (Go.Operand.tmp 58) 4, type := 4, pos := "law.go:193", after := #[{ on := 1, ground := Go.Ground.data }, { on := 6, ground := Go.Ground.data }], guard := none } : Oper)) (v := ?_) rfl (by kernel_rfl) (by kernel_rfl) (by kernel_rfl) (fun _ _ _ h => h) (Or.inl ⟨by rfl, ?_⟩) (by assumption) ?_
    rotate_left
    · (intro w hSw; (try dsimp only at hSw); go_simp; try with_reducible rfl)
    try simp only [Act.put, List.setIfInBounds_toArray, List.set_cons_zero, List.set_cons_succ]
    refine wpAnyH_take (i := 8) (oi := ({ dst := some 6, op := Go.Op.assign (Go.Operand.tmp 59), type := 4, pos := "law.go:193", after := #[{ on := 7, ground := Go.Ground.data }, { on := 5, ground := Go.Ground.chain }, { on := 0, ground := Go.Ground.phase }, { on := 1, ground := Go.Ground.phase }, { on := 2, ground := Go.Ground.phase }, { on := 3, ground := Go.Ground.phase }, { on := 4, ground := Go.Ground.phase }, { on := 5, ground := Go.Ground.phase }, { on := 6, ground := Go.Ground.phase }, { on := 7, ground := Go.Ground.phase }], guard := none } : Oper)) (v := ?_) rfl (by kernel_rfl) (by kernel_rfl) (by kernel_rfl) (fun _ _ _ h => h) (Or.inl ⟨by rfl, ?_⟩) (by assumption) ?_
    rotate_left
    · (intro w hSw; (try dsimp only at hSw); go_simp; try with_reducible rfl)
    try simp only [Act.put, List.setIfInBounds_toArray, List.set_cons_zero, List.set_cons_succ]
    refine wpAnyH_done (by kernel_rfl) ?_ _
    refine NoPanic.normal ?_
    go_wp2_with fail; go_returns; exact ⟨rfl, k8.trans' (held2k (b := PA) (g := PB) (cs := bs xa) (ds := bs xb) (by assumption))⟩
end Go.Proofs.Ytlpinbkgbnbkhaa

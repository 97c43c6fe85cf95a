/- Valid of the program, of the document, of the law: which lists of results are tables. -/
import Derived.Test.YtjdkeabimcajlaaVd
set_option linter.unusedVariables false
set_option linter.unusedSimpArgs false
namespace Go.Proofs.Ytjdkeabimcajlaa
open Go.RowKit

/-- What a region's loads stand on, kept by what only makes memory. -/
def S1 (W : World) (p : Nat) (x : Res) (w : World) : Prop := w.rangeAt p 0 x.cells ∧ Keep [] W w
theorem S1.step {W w w' : World} {p : Nat} {x : Res} (h : S1 W p x w) (k : Keep [] w w') : S1 W p x w' := ⟨rangeAt_keep h.1 k (by simp), h.2.trans' k⟩
/-- Two of them: at an offset each. -/
def S2 (W : World) (b o : Nat) (y : Res) (p q : Nat) (x : Res) (w : World) : Prop := w.rangeAt b o y.cells ∧ w.rangeAt p q x.cells ∧ Keep [] W w
theorem S2.step {W w w' : World} {b o p q : Nat} {x y : Res} (h : S2 W b o y p q x w) (k : Keep [] w w') : S2 W b o y p q x w' := ⟨rangeAt_keep h.1 k (by simp), rangeAt_keep h.2.1 k (by simp), h.2.2.trans' k⟩

set_option maxHeartbeats 8000000 in
set_option maxRecDepth 100000 in
theorem valid_any (a : Option Addr) (n c : Nat) (l : List Res) (w : World) (hx : RsIn w a n c l) :
    Calls Try.prog 17 #[.slice a n c] w fun e w' => e = .returned (.bool (validR l)) ∧ Keep [] w w' := by
  have hl := hx.hlen
  have HL := Lib.hid hl
  by_cases h32 : n ≤ 32
  · have HV := Lib.hid (valid_long (show l.length ≤ 32 by omega))
    rw [hl] at HV
    clear hl
    obtain ⟨N, hN, hso⟩ := size39
    have HN := Lib.hid hN
    clear hN
    go_enter Try.func17, Try.ntmps17
    go_upto_region 4 with fail
    go_loopw [3, 4, 10] (fun v3 v4 v10 wr => ∃ i, i ≤ n ∧ v10 = .int .i64 (i : Nat) ∧ Hid (okTo l i = true) ∧ Keep [] w wr) (fun _ _ v10 _ => n - (intOf v10).toNat)
    case atStart => exact ⟨0, by omega, rfl, Lib.hid (okTo_zero l), Keep.refl _ _⟩
    case round =>
      obtain ⟨i, hi, rfl, HO, kk⟩ := hrel
      by_cases hlt : i < n
      · obtain ⟨x, b, off, ex, rfl, rx⟩ := (hx.keep kk (by simp)).at hlt
        have i0 : (0 : Int) ≤ i := by omega
        have i1 : (i : Int) < n := by omega
        have HEX := Lib.hid ex
        have rx' := rx
        rw [HN.out] at rx'
        have x65 : x.cells.toArray.size = 65 := by simpa using x.len
        have HX65 := Lib.hid x65
        clear ex x65
        go_upto_region 6 with (first
          | (refine wpList_load_mid rfl 39 (.tmp 13) rfl b (off + i * N) rfl x.cells _ rx' Try.underlying39 rfl (hi39 x) ?_)
          | (refine wpList_store_last rfl 39 (.tmp 4) (.tmp 14) rfl _ _ x.cells.toArray rfl rfl rfl (by rw [HX65.out]; rfl) (by rw [HX65.out]; rfl) (res_all x) ?_)
          | fail)
        have BX : Blk (wr.alloc (.cells x.cells.toArray 39)) wr.heap.size x.cells.toArray 39 := Blk.new _ _ _
        have kW : Keep [] w (wr.alloc (.cells x.cells.toArray 39)) := kk.alloc _
        obtain ⟨W4, hW4⟩ : ∃ W, wr.alloc (.cells x.cells.toArray 39) = W := ⟨_, rfl⟩
        obtain ⟨px, hpx⟩ : ∃ P, wr.heap.size = P := ⟨_, rfl⟩
        rw [hW4] at kW BX ⊢
        rw [hpx] at BX ⊢
        have rX := rangeAt_of_blk BX
        have hx4 := hx.keep kW (by simp)
        have HLT := Lib.hid hlt
        have fit := fits_any x
        clear hW4 hpx BX
        cases hf : fitR x with
        | false =>
          have FIT := Lib.hid fit
          rw [hf] at FIT
          have HF := Lib.hid hf
          have hS : S1 W4 px x W4 := ⟨rX, Keep.refl _ _⟩
          clear fit hf hlt rX rx rx' hx4
          refine wp_region_noPanic ?_
          refine wp_region_held_drew (S := S1 W4 px x) (by kernel_rfl) ?_ (fun hHeld0 => ?_)
          · (try dsimp only); first | exact S1.step hS ((Keep.refl [] _).drew) | exact S1.step (by assumption) hk
          refine wpAnyH_take (i := 0) (oi := ({ dst := some 15, op := Go.Op.load 39 (Go.Operand.tmp 4), type := 39, pos := "table.go:25", after := #[], guard := none } : Oper)) (v := .agg (List.toArray x.cells)) rfl (by kernel_rfl) (by kernel_rfl) (by kernel_rfl) (fun _ _ _ h => h) (yieldsIf_load_mid (by rfl) _ _ rfl _ _ rfl x.cells _ (fun w hSw => hSw.1) Try.underlying39 rfl (hi39 x)) (by assumption) ?_
          try simp only [Act.put, List.setIfInBounds_toArray, List.set_cons_zero, List.set_cons_succ]
          refine wpAnyH_ready (rs := [1]) (by kernel_rfl) (by simp) ?_
          refine (AllReadyH.cons (o := ({ dst := some 16, op := Go.Op.call { callee := Go.Callee.value (Go.Operand.func 42), args := #[Go.Operand.tmp 15], argTypes := #[39] }, type := 4, pos := "table.go:25", after := #[{ on := 0, ground := Go.Ground.data }], guard := none } : Oper)) rfl (fun K hK => ?_) AllReadyH.nil)
          go_simp
          (refine (FIT.out _).mono ?_; rintro e w' ⟨rfl, hk⟩)
          go_wp2_with fail
          refine hK.out _ _ ?_ (fun hHeld1 => ?_)
          · (try dsimp only); first | exact S1.step hS ((Keep.refl [] _).drew) | exact S1.step (by assumption) hk
          clear hK K
          try simp only [Act.put, List.setIfInBounds_toArray, List.set_cons_zero, List.set_cons_succ]
          refine wpAnyH_take (i := 2) (oi := ({ dst := some 17, op := Go.Op.unOp Go.UnOp.not 4 (Go.Operand.tmp 16), type := 4, pos := "table.go:25", after := #[{ on := 1, ground := Go.Ground.data }], guard := none } : Oper)) (v := ?_) rfl (by kernel_rfl) (by kernel_rfl) (by kernel_rfl) (fun _ _ _ h => h) (Or.inl ⟨by rfl, ?_⟩) (by assumption) ?_
          rotate_left
          · (intro w hSw; (try dsimp only at hSw); go_simp; try with_reducible rfl)
          try simp only [Act.put, List.setIfInBounds_toArray, List.set_cons_zero, List.set_cons_succ]
          refine wpAnyH_take (i := 3) (oi := ({ dst := some 18, op := Go.Op.move (Go.Operand.tmp 17), type := 4, pos := "table.go:25", after := #[{ on := 2, ground := Go.Ground.data }, { on := 1, ground := Go.Ground.chain }], guard := none } : Oper)) (v := ?_) rfl (by kernel_rfl) (by kernel_rfl) (by kernel_rfl) (fun _ _ _ h => h) (Or.inl ⟨by rfl, ?_⟩) (by assumption) ?_
          rotate_left
          · (intro w hSw; (try dsimp only at hSw); go_simp; try with_reducible rfl)
          try simp only [Act.put, List.setIfInBounds_toArray, List.set_cons_zero, List.set_cons_succ]
          refine wpAnyH_take (i := 4) (oi := ({ dst := some 19, op := Go.Op.move (Go.Operand.tmp 3), type := 3, pos := "table.go:25", after := #[{ on := 3, ground := Go.Ground.guard }], guard := some (3, false) } : Oper)) (v := undef) rfl (by kernel_rfl) (by kernel_rfl) (by kernel_rfl) (fun _ _ _ h => h) (Or.inr ⟨by rfl, rfl⟩) (by assumption) ?_
          try simp only [Act.put, List.setIfInBounds_toArray, List.set_cons_zero, List.set_cons_succ]
          refine wpAnyH_take (i := 5) (oi := ({ dst := some 20, op := Go.Op.binOp Go.BinOp.gtr 3 (Go.Operand.tmp 19) (Go.Operand.const (Go.Value.int Go.IntKind.i64 0)) 3, type := 4, pos := "table.go:25", after := #[{ on := 4, ground := Go.Ground.data }, { on := 3, ground := Go.Ground.guard }], guard := some (3, false) } : Oper)) (v := undef) rfl (by kernel_rfl) (by kernel_rfl) (by kernel_rfl) (fun _ _ _ h => h) (Or.inr ⟨by rfl, rfl⟩) (by assumption) ?_
          try simp only [Act.put, List.setIfInBounds_toArray, List.set_cons_zero, List.set_cons_succ]
          refine wpAnyH_take (i := 6) (oi := ({ dst := some 21, op := Go.Op.move (Go.Operand.tmp 20), type := 4, pos := "table.go:25", after := #[{ on := 5, ground := Go.Ground.data }, { on := 3, ground := Go.Ground.chain }, { on := 3, ground := Go.Ground.guard }], guard := some (3, false) } : Oper)) (v := undef) rfl (by kernel_rfl) (by kernel_rfl) (by kernel_rfl) (fun _ _ _ h => h) (Or.inr ⟨by rfl, rfl⟩) (by assumption) ?_
          try simp only [Act.put, List.setIfInBounds_toArray, List.set_cons_zero, List.set_cons_succ]
          refine wpAnyH_take (i := 7) (oi := ({ dst := some 22, op := Go.Op.move (Go.Operand.tmp 0), type := 22, pos := "table.go:25", after := #[{ on := 6, ground := Go.Ground.guard }], guard := some (6, true) } : Oper)) (v := undef) rfl (by kernel_rfl) (by kernel_rfl) (by kernel_rfl) (fun _ _ _ h => h) (Or.inr ⟨by rfl, rfl⟩) (by assumption) ?_
          try simp only [Act.put, List.setIfInBounds_toArray, List.set_cons_zero, List.set_cons_succ]
          refine wpAnyH_take (i := 8) (oi := ({ dst := some 23, op := Go.Op.move (Go.Operand.tmp 3), type := 3, pos := "table.go:25", after := #[{ on := 6, ground := Go.Ground.guard }], guard := some (6, true) } : Oper)) (v := undef) rfl (by kernel_rfl) (by kernel_rfl) (by kernel_rfl) (fun _ _ _ h => h) (Or.inr ⟨by rfl, rfl⟩) (by assumption) ?_
          try simp only [Act.put, List.setIfInBounds_toArray, List.set_cons_zero, List.set_cons_succ]
          refine wpAnyH_take (i := 9) (oi := ({ dst := some 24, op := Go.Op.binOp Go.BinOp.sub 3 (Go.Operand.tmp 23) (Go.Operand.const (Go.Value.int Go.IntKind.i64 1)) 3, type := 3, pos := "table.go:25", after := #[{ on := 8, ground := Go.Ground.data }, { on := 6, ground := Go.Ground.guard }], guard := some (6, true) } : Oper)) (v := undef) rfl (by kernel_rfl) (by kernel_rfl) (by kernel_rfl) (fun _ _ _ h => h) (Or.inr ⟨by rfl, rfl⟩) (by assumption) ?_
          try simp only [Act.put, List.setIfInBounds_toArray, List.set_cons_zero, List.set_cons_succ]
          refine wpAnyH_take (i := 10) (oi := ({ dst := some 25, op := Go.Op.indexAddr 22 (Go.Operand.tmp 22) (Go.Operand.tmp 24), type := 0, pos := "table.go:25", after := #[{ on := 7, ground := Go.Ground.data }, { on := 9, ground := Go.Ground.data }, { on := 6, ground := Go.Ground.guard }], guard := some (6, true) } : Oper)) (v := undef) rfl (by kernel_rfl) (by kernel_rfl) (by kernel_rfl) (fun _ _ _ h => h) (Or.inr ⟨by rfl, rfl⟩) (by assumption) ?_
          try simp only [Act.put, List.setIfInBounds_toArray, List.set_cons_zero, List.set_cons_succ]
          refine wpAnyH_take (i := 11) (oi := ({ dst := some 26, op := Go.Op.fieldAddr 39 (Go.Operand.tmp 25) 0, type := 0, pos := "table.go:25", after := #[{ on := 10, ground := Go.Ground.data }, { on := 6, ground := Go.Ground.guard }], guard := some (6, true) } : Oper)) (v := undef) rfl (by kernel_rfl) (by kernel_rfl) (by kernel_rfl) (fun _ _ _ h => h) (Or.inr ⟨by rfl, rfl⟩) (by assumption) ?_
          try simp only [Act.put, List.setIfInBounds_toArray, List.set_cons_zero, List.set_cons_succ]
          refine wpAnyH_take (i := 12) (oi := ({ dst := some 27, op := Go.Op.load 37 (Go.Operand.tmp 26), type := 37, pos := "table.go:25", after := #[{ on := 11, ground := Go.Ground.data }, { on := 6, ground := Go.Ground.guard }], guard := some (6, true) } : Oper)) (v := undef) rfl (by kernel_rfl) (by kernel_rfl) (by kernel_rfl) (fun _ _ _ h => h) (Or.inr ⟨by rfl, rfl⟩) (by assumption) ?_
          try simp only [Act.put, List.setIfInBounds_toArray, List.set_cons_zero, List.set_cons_succ]
          refine wpAnyH_take (i := 13) (oi := ({ dst := some 28, op := Go.Op.fieldAddr 39 (Go.Operand.tmp 4) 0, type := 0, pos := "table.go:25", after := #[{ on := 6, ground := Go.Ground.guard }], guard := some (6, true) } : Oper)) (v := undef) rfl (by kernel_rfl) (by kernel_rfl) (by kernel_rfl) (fun _ _ _ h => h) (Or.inr ⟨by rfl, rfl⟩) (by assumption) ?_
          try simp only [Act.put, List.setIfInBounds_toArray, List.set_cons_zero, List.set_cons_succ]
          refine wpAnyH_take (i := 14) (oi := ({ dst := some 29, op := Go.Op.load 37 (Go.Operand.tmp 28), type := 37, pos := "table.go:25", after := #[{ on := 13, ground := Go.Ground.data }, { on := 6, ground := Go.Ground.guard }], guard := some (6, true) } : Oper)) (v := undef) rfl (by kernel_rfl) (by kernel_rfl) (by kernel_rfl) (fun _ _ _ h => h) (Or.inr ⟨by rfl, rfl⟩) (by assumption) ?_
          try simp only [Act.put, List.setIfInBounds_toArray, List.set_cons_zero, List.set_cons_succ]
          refine wpAnyH_take (i := 15) (oi := ({ dst := some 30, op := Go.Op.call { callee := Go.Callee.value (Go.Operand.func 43), args := #[Go.Operand.tmp 27, Go.Operand.tmp 29], argTypes := #[37, 37] }, type := 4, pos := "table.go:25", after := #[{ on := 12, ground := Go.Ground.data }, { on := 14, ground := Go.Ground.data }, { on := 6, ground := Go.Ground.chain }, { on := 6, ground := Go.Ground.guard }], guard := some (6, true) } : Oper)) (v := undef) rfl (by kernel_rfl) (by kernel_rfl) (by kernel_rfl) (fun _ _ _ h => h) (Or.inr ⟨by rfl, rfl⟩) (by assumption) ?_
          try simp only [Act.put, List.setIfInBounds_toArray, List.set_cons_zero, List.set_cons_succ]
          refine wpAnyH_take (i := 16) (oi := ({ dst := some 31, op := Go.Op.unOp Go.UnOp.not 4 (Go.Operand.tmp 30), type := 4, pos := "table.go:25", after := #[{ on := 15, ground := Go.Ground.data }, { on := 6, ground := Go.Ground.guard }], guard := some (6, true) } : Oper)) (v := undef) rfl (by kernel_rfl) (by kernel_rfl) (by kernel_rfl) (fun _ _ _ h => h) (Or.inr ⟨by rfl, rfl⟩) (by assumption) ?_
          try simp only [Act.put, List.setIfInBounds_toArray, List.set_cons_zero, List.set_cons_succ]
          refine wpAnyH_take (i := 17) (oi := ({ dst := some 32, op := Go.Op.pick (Go.Operand.tmp 21) (Go.Operand.tmp 31) (Go.Operand.const (Go.Value.bool false)), type := 4, pos := "table.go:25", after := #[{ on := 6, ground := Go.Ground.data }, { on := 16, ground := Go.Ground.data }, { on := 3, ground := Go.Ground.guard }], guard := some (3, false) } : Oper)) (v := undef) rfl (by kernel_rfl) (by kernel_rfl) (by kernel_rfl) (fun _ _ _ h => h) (Or.inr ⟨by rfl, rfl⟩) (by assumption) ?_
          try simp only [Act.put, List.setIfInBounds_toArray, List.set_cons_zero, List.set_cons_succ]
          refine wpAnyH_take (i := 18) (oi := ({ dst := some 33, op := Go.Op.pick (Go.Operand.tmp 18) (Go.Operand.const (Go.Value.bool true)) (Go.Operand.tmp 32), type := 4, pos := "table.go:25", after := #[{ on := 3, ground := Go.Ground.data }, { on := 17, ground := Go.Ground.data }], guard := none } : Oper)) (v := ?_) rfl (by kernel_rfl) (by kernel_rfl) (by kernel_rfl) (fun _ _ _ h => h) (Or.inl ⟨by rfl, ?_⟩) (by assumption) ?_
          rotate_left
          · (intro w hSw; (try dsimp only at hSw); go_simp; try with_reducible rfl)
          try simp only [Act.put, List.setIfInBounds_toArray, List.set_cons_zero, List.set_cons_succ]
          refine wpAnyH_done (by kernel_rfl) ?_ _
          refine NoPanic.normal ?_
          go_wp2_with fail; go_returns; exact ⟨by rw [HV.out, okTo_no (step_unfit HEX.out HF.out) HLT.out]; rfl, kW.trans' ((by assumption : S1 W4 px x _).2)⟩
        | true =>
          have FIT := Lib.hid fit
          rw [hf] at FIT
          have HF := Lib.hid hf
          clear fit hf
          cases i with
          | zero =>
            have hS : S1 W4 px x W4 := ⟨rX, Keep.refl _ _⟩
            have e0 : ((0 : Nat) : Int) = 0 := rfl
            simp only [e0]
            clear hlt rX rx rx' hx4
            refine wp_region_noPanic ?_
            refine wp_region_held_drew (S := S1 W4 px x) (by kernel_rfl) ?_ (fun hHeld0 => ?_)
            · (try dsimp only); first | exact S1.step hS ((Keep.refl [] _).drew) | exact S1.step (by assumption) hk
            refine wpAnyH_take (i := 0) (oi := ({ dst := some 15, op := Go.Op.load 39 (Go.Operand.tmp 4), type := 39, pos := "table.go:25", after := #[], guard := none } : Oper)) (v := .agg (List.toArray x.cells)) rfl (by kernel_rfl) (by kernel_rfl) (by kernel_rfl) (fun _ _ _ h => h) (yieldsIf_load_mid (by rfl) _ _ rfl _ _ rfl x.cells _ (fun w hSw => hSw.1) Try.underlying39 rfl (hi39 x)) (by assumption) ?_
            try simp only [Act.put, List.setIfInBounds_toArray, List.set_cons_zero, List.set_cons_succ]
            refine wpAnyH_ready (rs := [1]) (by kernel_rfl) (by simp) ?_
            refine (AllReadyH.cons (o := ({ dst := some 16, op := Go.Op.call { callee := Go.Callee.value (Go.Operand.func 42), args := #[Go.Operand.tmp 15], argTypes := #[39] }, type := 4, pos := "table.go:25", after := #[{ on := 0, ground := Go.Ground.data }], guard := none } : Oper)) rfl (fun K hK => ?_) AllReadyH.nil)
            go_simp
            (refine (FIT.out _).mono ?_; rintro e w' ⟨rfl, hk⟩)
            go_wp2_with fail
            refine hK.out _ _ ?_ (fun hHeld1 => ?_)
            · (try dsimp only); first | exact S1.step hS ((Keep.refl [] _).drew) | exact S1.step (by assumption) hk
            clear hK K
            try simp only [Act.put, List.setIfInBounds_toArray, List.set_cons_zero, List.set_cons_succ]
            refine wpAnyH_take (i := 2) (oi := ({ dst := some 17, op := Go.Op.unOp Go.UnOp.not 4 (Go.Operand.tmp 16), type := 4, pos := "table.go:25", after := #[{ on := 1, ground := Go.Ground.data }], guard := none } : Oper)) (v := ?_) rfl (by kernel_rfl) (by kernel_rfl) (by kernel_rfl) (fun _ _ _ h => h) (Or.inl ⟨by rfl, ?_⟩) (by assumption) ?_
            rotate_left
            · (intro w hSw; (try dsimp only at hSw); go_simp; try with_reducible rfl)
            try simp only [Act.put, List.setIfInBounds_toArray, List.set_cons_zero, List.set_cons_succ]
            refine wpAnyH_take (i := 3) (oi := ({ dst := some 18, op := Go.Op.move (Go.Operand.tmp 17), type := 4, pos := "table.go:25", after := #[{ on := 2, ground := Go.Ground.data }, { on := 1, ground := Go.Ground.chain }], guard := none } : Oper)) (v := ?_) rfl (by kernel_rfl) (by kernel_rfl) (by kernel_rfl) (fun _ _ _ h => h) (Or.inl ⟨by rfl, ?_⟩) (by assumption) ?_
            rotate_left
            · (intro w hSw; (try dsimp only at hSw); go_simp; try with_reducible rfl)
            try simp only [Act.put, List.setIfInBounds_toArray, List.set_cons_zero, List.set_cons_succ]
            refine wpAnyH_take (i := 4) (oi := ({ dst := some 19, op := Go.Op.move (Go.Operand.tmp 3), type := 3, pos := "table.go:25", after := #[{ on := 3, ground := Go.Ground.guard }], guard := some (3, false) } : Oper)) (v := ?_) rfl (by kernel_rfl) (by kernel_rfl) (by kernel_rfl) (fun _ _ _ h => h) (Or.inl ⟨by rfl, ?_⟩) (by assumption) ?_
            rotate_left
            · (intro w hSw; (try dsimp only at hSw); go_simp; try with_reducible rfl)
            try simp only [Act.put, List.setIfInBounds_toArray, List.set_cons_zero, List.set_cons_succ]
            refine wpAnyH_take (i := 5) (oi := ({ dst := some 20, op := Go.Op.binOp Go.BinOp.gtr 3 (Go.Operand.tmp 19) (Go.Operand.const (Go.Value.int Go.IntKind.i64 0)) 3, type := 4, pos := "table.go:25", after := #[{ on := 4, ground := Go.Ground.data }, { on := 3, ground := Go.Ground.guard }], guard := some (3, false) } : Oper)) (v := ?_) rfl (by kernel_rfl) (by kernel_rfl) (by kernel_rfl) (fun _ _ _ h => h) (Or.inl ⟨by rfl, ?_⟩) (by assumption) ?_
            rotate_left
            · (intro w hSw; (try dsimp only at hSw); go_simp; try with_reducible rfl)
            try simp only [Act.put, List.setIfInBounds_toArray, List.set_cons_zero, List.set_cons_succ]
            refine wpAnyH_take (i := 6) (oi := ({ dst := some 21, op := Go.Op.move (Go.Operand.tmp 20), type := 4, pos := "table.go:25", after := #[{ on := 5, ground := Go.Ground.data }, { on := 3, ground := Go.Ground.chain }, { on := 3, ground := Go.Ground.guard }], guard := some (3, false) } : Oper)) (v := ?_) rfl (by kernel_rfl) (by kernel_rfl) (by kernel_rfl) (fun _ _ _ h => h) (Or.inl ⟨by rfl, ?_⟩) (by assumption) ?_
            rotate_left
            · (intro w hSw; (try dsimp only at hSw); go_simp; try with_reducible rfl)
            try simp only [Act.put, List.setIfInBounds_toArray, List.set_cons_zero, List.set_cons_succ]
            refine wpAnyH_take (i := 7) (oi := ({ dst := some 22, op := Go.Op.move (Go.Operand.tmp 0), type := 22, pos := "table.go:25", after := #[{ on := 6, ground := Go.Ground.guard }], guard := some (6, true) } : Oper)) (v := undef) rfl (by kernel_rfl) (by kernel_rfl) (by kernel_rfl) (fun _ _ _ h => h) (Or.inr ⟨by rfl, rfl⟩) (by assumption) ?_
            try simp only [Act.put, List.setIfInBounds_toArray, List.set_cons_zero, List.set_cons_succ]
            refine wpAnyH_take (i := 8) (oi := ({ dst := some 23, op := Go.Op.move (Go.Operand.tmp 3), type := 3, pos := "table.go:25", after := #[{ on := 6, ground := Go.Ground.guard }], guard := some (6, true) } : Oper)) (v := undef) rfl (by kernel_rfl) (by kernel_rfl) (by kernel_rfl) (fun _ _ _ h => h) (Or.inr ⟨by rfl, rfl⟩) (by assumption) ?_
            try simp only [Act.put, List.setIfInBounds_toArray, List.set_cons_zero, List.set_cons_succ]
            refine wpAnyH_take (i := 9) (oi := ({ dst := some 24, op := Go.Op.binOp Go.BinOp.sub 3 (Go.Operand.tmp 23) (Go.Operand.const (Go.Value.int Go.IntKind.i64 1)) 3, type := 3, pos := "table.go:25", after := #[{ on := 8, ground := Go.Ground.data }, { on := 6, ground := Go.Ground.guard }], guard := some (6, true) } : Oper)) (v := undef) rfl (by kernel_rfl) (by kernel_rfl) (by kernel_rfl) (fun _ _ _ h => h) (Or.inr ⟨by rfl, rfl⟩) (by assumption) ?_
            try simp only [Act.put, List.setIfInBounds_toArray, List.set_cons_zero, List.set_cons_succ]
            refine wpAnyH_take (i := 10) (oi := ({ dst := some 25, op := Go.Op.indexAddr 22 (Go.Operand.tmp 22) (Go.Operand.tmp 24), type := 0, pos := "table.go:25", after := #[{ on := 7, ground := Go.Ground.data }, { on := 9, ground := Go.Ground.data }, { on := 6, ground := Go.Ground.guard }], guard := some (6, true) } : Oper)) (v := undef) rfl (by kernel_rfl) (by kernel_rfl) (by kernel_rfl) (fun _ _ _ h => h) (Or.inr ⟨by rfl, rfl⟩) (by assumption) ?_
            try simp only [Act.put, List.setIfInBounds_toArray, List.set_cons_zero, List.set_cons_succ]
            refine wpAnyH_take (i := 11) (oi := ({ dst := some 26, op := Go.Op.fieldAddr 39 (Go.Operand.tmp 25) 0, type := 0, pos := "table.go:25", after := #[{ on := 10, ground := Go.Ground.data }, { on := 6, ground := Go.Ground.guard }], guard := some (6, true) } : Oper)) (v := undef) rfl (by kernel_rfl) (by kernel_rfl) (by kernel_rfl) (fun _ _ _ h => h) (Or.inr ⟨by rfl, rfl⟩) (by assumption) ?_
            try simp only [Act.put, List.setIfInBounds_toArray, List.set_cons_zero, List.set_cons_succ]
            refine wpAnyH_take (i := 12) (oi := ({ dst := some 27, op := Go.Op.load 37 (Go.Operand.tmp 26), type := 37, pos := "table.go:25", after := #[{ on := 11, ground := Go.Ground.data }, { on := 6, ground := Go.Ground.guard }], guard := some (6, true) } : Oper)) (v := undef) rfl (by kernel_rfl) (by kernel_rfl) (by kernel_rfl) (fun _ _ _ h => h) (Or.inr ⟨by rfl, rfl⟩) (by assumption) ?_
            try simp only [Act.put, List.setIfInBounds_toArray, List.set_cons_zero, List.set_cons_succ]
            refine wpAnyH_take (i := 13) (oi := ({ dst := some 28, op := Go.Op.fieldAddr 39 (Go.Operand.tmp 4) 0, type := 0, pos := "table.go:25", after := #[{ on := 6, ground := Go.Ground.guard }], guard := some (6, true) } : Oper)) (v := undef) rfl (by kernel_rfl) (by kernel_rfl) (by kernel_rfl) (fun _ _ _ h => h) (Or.inr ⟨by rfl, rfl⟩) (by assumption) ?_
            try simp only [Act.put, List.setIfInBounds_toArray, List.set_cons_zero, List.set_cons_succ]
            refine wpAnyH_take (i := 14) (oi := ({ dst := some 29, op := Go.Op.load 37 (Go.Operand.tmp 28), type := 37, pos := "table.go:25", after := #[{ on := 13, ground := Go.Ground.data }, { on := 6, ground := Go.Ground.guard }], guard := some (6, true) } : Oper)) (v := undef) rfl (by kernel_rfl) (by kernel_rfl) (by kernel_rfl) (fun _ _ _ h => h) (Or.inr ⟨by rfl, rfl⟩) (by assumption) ?_
            try simp only [Act.put, List.setIfInBounds_toArray, List.set_cons_zero, List.set_cons_succ]
            refine wpAnyH_take (i := 15) (oi := ({ dst := some 30, op := Go.Op.call { callee := Go.Callee.value (Go.Operand.func 43), args := #[Go.Operand.tmp 27, Go.Operand.tmp 29], argTypes := #[37, 37] }, type := 4, pos := "table.go:25", after := #[{ on := 12, ground := Go.Ground.data }, { on := 14, ground := Go.Ground.data }, { on := 6, ground := Go.Ground.chain }, { on := 6, ground := Go.Ground.guard }], guard := some (6, true) } : Oper)) (v := undef) rfl (by kernel_rfl) (by kernel_rfl) (by kernel_rfl) (fun _ _ _ h => h) (Or.inr ⟨by rfl, rfl⟩) (by assumption) ?_
            try simp only [Act.put, List.setIfInBounds_toArray, List.set_cons_zero, List.set_cons_succ]
            refine wpAnyH_take (i := 16) (oi := ({ dst := some 31, op := Go.Op.unOp Go.UnOp.not 4 (Go.Operand.tmp 30), type := 4, pos := "table.go:25", after := #[{ on := 15, ground := Go.Ground.data }, { on := 6, ground := Go.Ground.guard }], guard := some (6, true) } : Oper)) (v := undef) rfl (by kernel_rfl) (by kernel_rfl) (by kernel_rfl) (fun _ _ _ h => h) (Or.inr ⟨by rfl, rfl⟩) (by assumption) ?_
            try simp only [Act.put, List.setIfInBounds_toArray, List.set_cons_zero, List.set_cons_succ]
            refine wpAnyH_take (i := 17) (oi := ({ dst := some 32, op := Go.Op.pick (Go.Operand.tmp 21) (Go.Operand.tmp 31) (Go.Operand.const (Go.Value.bool false)), type := 4, pos := "table.go:25", after := #[{ on := 6, ground := Go.Ground.data }, { on := 16, ground := Go.Ground.data }, { on := 3, ground := Go.Ground.guard }], guard := some (3, false) } : Oper)) (v := ?_) rfl (by kernel_rfl) (by kernel_rfl) (by kernel_rfl) (fun _ _ _ h => h) (Or.inl ⟨by rfl, ?_⟩) (by assumption) ?_
            rotate_left
            · (intro w hSw; (try dsimp only at hSw); go_simp; try with_reducible rfl)
            try simp only [Act.put, List.setIfInBounds_toArray, List.set_cons_zero, List.set_cons_succ]
            refine wpAnyH_take (i := 18) (oi := ({ dst := some 33, op := Go.Op.pick (Go.Operand.tmp 18) (Go.Operand.const (Go.Value.bool true)) (Go.Operand.tmp 32), type := 4, pos := "table.go:25", after := #[{ on := 3, ground := Go.Ground.data }, { on := 17, ground := Go.Ground.data }], guard := none } : Oper)) (v := ?_) rfl (by kernel_rfl) (by kernel_rfl) (by kernel_rfl) (fun _ _ _ h => h) (Or.inl ⟨by rfl, ?_⟩) (by assumption) ?_
            rotate_left
            · (intro w hSw; (try dsimp only at hSw); go_simp; try with_reducible rfl)
            try simp only [Act.put, List.setIfInBounds_toArray, List.set_cons_zero, List.set_cons_succ]
            refine wpAnyH_done (by kernel_rfl) ?_ _
            refine NoPanic.normal ?_
            go_wp2_with fail; (try clear j5); exact ⟨⟨1, by have := HLT.out; omega, by go_num, Lib.hid (by rw [okTo_succ, HO.out, step_first HEX.out, HF.out]; rfl), kW.trans' ((by assumption : S1 W4 px x _).2)⟩, by have := HLT.out; simp [intOf]; omega⟩
          | succ j =>
            obtain ⟨y, b', off', ey, e', ry⟩ := hx4.at (show j < n by omega)
            obtain ⟨rfl, rfl⟩ : b = b' ∧ off = off' := by simpa using e'
            rw [HN.out] at ry
            have hS : S2 W4 b (off + j * N) y px 0 x W4 := ⟨ry, rX, Keep.refl _ _⟩
            have HEY := Lib.hid ey
            have bel := fun W => below_any y.act x.act W y.la x.la
            have e1 : ((j + 1 : Nat) : Int) = (j : Int) + 1 := by omega
            simp only [e1]
            have j1 : (0 : Int) < (j : Int) + 1 := by omega
            have j2 : (j : Int) < n := by omega
            have j3 : (0 : Int) ≤ j := by omega
            have j4 : (j : Int) ≤ 32 := by omega
            have j5 : IntKind.i64.wrap (j : Int) = j := IntWalk.i64_in _ (by omega)
            clear hlt rX rx rx' hx4 i0 i1 e1 e' ey ry
            cases hlx : ltR y x with
            | false =>
              have BEL := Lib.hid bel
              rw [show decide (Lib.compareBytes y.act x.act < 0) = ltR y x from rfl, hlx] at BEL
              have HLX := Lib.hid hlx
              clear bel hlx
              refine wp_region_noPanic ?_
              refine wp_region_held_drew (S := S2 W4 b (off + j * N) y px 0 x) (by kernel_rfl) ?_ (fun hHeld0 => ?_)
              · (try dsimp only); first | exact S2.step hS ((Keep.refl [] _).drew) | exact S2.step (by assumption) hk
              refine wpAnyH_take (i := 0) (oi := ({ dst := some 15, op := Go.Op.load 39 (Go.Operand.tmp 4), type := 39, pos := "table.go:25", after := #[], guard := none } : Oper)) (v := .agg (List.toArray x.cells)) rfl (by kernel_rfl) (by kernel_rfl) (by kernel_rfl) (fun _ _ _ h => h) (yieldsIf_load_mid (by rfl) _ _ rfl _ _ rfl x.cells _ (fun w hSw => hSw.2.1) Try.underlying39 rfl (hi39 x)) (by assumption) ?_
              try simp only [Act.put, List.setIfInBounds_toArray, List.set_cons_zero, List.set_cons_succ]
              refine wpAnyH_ready (rs := [1]) (by kernel_rfl) (by simp) ?_
              refine (AllReadyH.cons (o := ({ dst := some 16, op := Go.Op.call { callee := Go.Callee.value (Go.Operand.func 42), args := #[Go.Operand.tmp 15], argTypes := #[39] }, type := 4, pos := "table.go:25", after := #[{ on := 0, ground := Go.Ground.data }], guard := none } : Oper)) rfl (fun K hK => ?_) AllReadyH.nil)
              go_simp
              (refine (FIT.out _).mono ?_; rintro e w' ⟨rfl, hk⟩)
              go_wp2_with fail
              refine hK.out _ _ ?_ (fun hHeld1 => ?_)
              · (try dsimp only); first | exact S2.step hS ((Keep.refl [] _).drew) | exact S2.step (by assumption) hk
              clear hK K
              try simp only [Act.put, List.setIfInBounds_toArray, List.set_cons_zero, List.set_cons_succ]
              refine wpAnyH_take (i := 2) (oi := ({ dst := some 17, op := Go.Op.unOp Go.UnOp.not 4 (Go.Operand.tmp 16), type := 4, pos := "table.go:25", after := #[{ on := 1, ground := Go.Ground.data }], guard := none } : Oper)) (v := ?_) rfl (by kernel_rfl) (by kernel_rfl) (by kernel_rfl) (fun _ _ _ h => h) (Or.inl ⟨by rfl, ?_⟩) (by assumption) ?_
              rotate_left
              · (intro w hSw; (try dsimp only at hSw); go_simp; try with_reducible rfl)
              try simp only [Act.put, List.setIfInBounds_toArray, List.set_cons_zero, List.set_cons_succ]
              refine wpAnyH_take (i := 3) (oi := ({ dst := some 18, op := Go.Op.move (Go.Operand.tmp 17), type := 4, pos := "table.go:25", after := #[{ on := 2, ground := Go.Ground.data }, { on := 1, ground := Go.Ground.chain }], guard := none } : Oper)) (v := ?_) rfl (by kernel_rfl) (by kernel_rfl) (by kernel_rfl) (fun _ _ _ h => h) (Or.inl ⟨by rfl, ?_⟩) (by assumption) ?_
              rotate_left
              · (intro w hSw; (try dsimp only at hSw); go_simp; try with_reducible rfl)
              try simp only [Act.put, List.setIfInBounds_toArray, List.set_cons_zero, List.set_cons_succ]
              refine wpAnyH_take (i := 4) (oi := ({ dst := some 19, op := Go.Op.move (Go.Operand.tmp 3), type := 3, pos := "table.go:25", after := #[{ on := 3, ground := Go.Ground.guard }], guard := some (3, false) } : Oper)) (v := ?_) rfl (by kernel_rfl) (by kernel_rfl) (by kernel_rfl) (fun _ _ _ h => h) (Or.inl ⟨by rfl, ?_⟩) (by assumption) ?_
              rotate_left
              · (intro w hSw; (try dsimp only at hSw); go_simp; try with_reducible rfl)
              try simp only [Act.put, List.setIfInBounds_toArray, List.set_cons_zero, List.set_cons_succ]
              refine wpAnyH_take (i := 5) (oi := ({ dst := some 20, op := Go.Op.binOp Go.BinOp.gtr 3 (Go.Operand.tmp 19) (Go.Operand.const (Go.Value.int Go.IntKind.i64 0)) 3, type := 4, pos := "table.go:25", after := #[{ on := 4, ground := Go.Ground.data }, { on := 3, ground := Go.Ground.guard }], guard := some (3, false) } : Oper)) (v := ?_) rfl (by kernel_rfl) (by kernel_rfl) (by kernel_rfl) (fun _ _ _ h => h) (Or.inl ⟨by rfl, ?_⟩) (by assumption) ?_
              rotate_left
              · (intro w hSw; (try dsimp only at hSw); go_simp; try with_reducible rfl)
              try simp only [Act.put, List.setIfInBounds_toArray, List.set_cons_zero, List.set_cons_succ]
              refine wpAnyH_take (i := 6) (oi := ({ dst := some 21, op := Go.Op.move (Go.Operand.tmp 20), type := 4, pos := "table.go:25", after := #[{ on := 5, ground := Go.Ground.data }, { on := 3, ground := Go.Ground.chain }, { on := 3, ground := Go.Ground.guard }], guard := some (3, false) } : Oper)) (v := ?_) rfl (by kernel_rfl) (by kernel_rfl) (by kernel_rfl) (fun _ _ _ h => h) (Or.inl ⟨by rfl, ?_⟩) (by assumption) ?_
              rotate_left
              · (intro w hSw; (try dsimp only at hSw); go_simp; try with_reducible rfl)
              try simp only [Act.put, List.setIfInBounds_toArray, List.set_cons_zero, List.set_cons_succ]
              refine wpAnyH_take (i := 7) (oi := ({ dst := some 22, op := Go.Op.move (Go.Operand.tmp 0), type := 22, pos := "table.go:25", after := #[{ on := 6, ground := Go.Ground.guard }], guard := some (6, true) } : Oper)) (v := ?_) rfl (by kernel_rfl) (by kernel_rfl) (by kernel_rfl) (fun _ _ _ h => h) (Or.inl ⟨by rfl, ?_⟩) (by assumption) ?_
              rotate_left
              · (intro w hSw; (try dsimp only at hSw); go_simp; try with_reducible rfl)
              try simp only [Act.put, List.setIfInBounds_toArray, List.set_cons_zero, List.set_cons_succ]
              refine wpAnyH_take (i := 8) (oi := ({ dst := some 23, op := Go.Op.move (Go.Operand.tmp 3), type := 3, pos := "table.go:25", after := #[{ on := 6, ground := Go.Ground.guard }], guard := some (6, true) } : Oper)) (v := ?_) rfl (by kernel_rfl) (by kernel_rfl) (by kernel_rfl) (fun _ _ _ h => h) (Or.inl ⟨by rfl, ?_⟩) (by assumption) ?_
              rotate_left
              · (intro w hSw; (try dsimp only at hSw); go_simp; try with_reducible rfl)
              try simp only [Act.put, List.setIfInBounds_toArray, List.set_cons_zero, List.set_cons_succ]
              refine wpAnyH_take (i := 9) (oi := ({ dst := some 24, op := Go.Op.binOp Go.BinOp.sub 3 (Go.Operand.tmp 23) (Go.Operand.const (Go.Value.int Go.IntKind.i64 1)) 3, type := 3, pos := "table.go:25", after := #[{ on := 8, ground := Go.Ground.data }, { on := 6, ground := Go.Ground.guard }], guard := some (6, true) } : Oper)) (v := ?_) rfl (by kernel_rfl) (by kernel_rfl) (by kernel_rfl) (fun _ _ _ h => h) (Or.inl ⟨by rfl, ?_⟩) (by assumption) ?_
              rotate_left
              · (intro w hSw; (try dsimp only at hSw); go_simp; try with_reducible rfl)
              try simp only [Act.put, List.setIfInBounds_toArray, List.set_cons_zero, List.set_cons_succ]
              refine wpAnyH_take (i := 10) (oi := ({ dst := some 25, op := Go.Op.indexAddr 22 (Go.Operand.tmp 22) (Go.Operand.tmp 24), type := 0, pos := "table.go:25", after := #[{ on := 7, ground := Go.Ground.data }, { on := 9, ground := Go.Ground.data }, { on := 6, ground := Go.Ground.guard }], guard := some (6, true) } : Oper)) (v := ?_) rfl (by kernel_rfl) (by kernel_rfl) (by kernel_rfl) (fun _ _ _ h => h) (Or.inl ⟨by rfl, ?_⟩) (by assumption) ?_
              rotate_left
              · (intro w hSw; (try dsimp only at hSw); go_simp; try with_reducible rfl)
              try simp only [Act.put, List.setIfInBounds_toArray, List.set_cons_zero, List.set_cons_succ]
              refine wpAnyH_take (i := 11) (oi := ({ dst := some 26, op := Go.Op.fieldAddr 39 (Go.Operand.tmp 25) 0, type := 0, pos := "table.go:25", after := #[{ on := 10, ground := Go.Ground.data }, { on := 6, ground := Go.Ground.guard }], guard := some (6, true) } : Oper)) (v := ?_) rfl (by kernel_rfl) (by kernel_rfl) (by kernel_rfl) (fun _ _ _ h => h) (Or.inl ⟨by rfl, ?_⟩) (by assumption) ?_
              rotate_left
              · (intro w hSw; (try dsimp only at hSw); go_simp; try with_reducible rfl)
              try simp only [Act.put, List.setIfInBounds_toArray, List.set_cons_zero, List.set_cons_succ]
              refine wpAnyH_take (i := 12) (oi := ({ dst := some 27, op := Go.Op.load 37 (Go.Operand.tmp 26), type := 37, pos := "table.go:25", after := #[{ on := 11, ground := Go.Ground.data }, { on := 6, ground := Go.Ground.guard }], guard := some (6, true) } : Oper)) (v := .agg (List.toArray (bs y.act))) rfl (by kernel_rfl) (by kernel_rfl) (by kernel_rfl) (fun _ _ _ h => h) (yieldsIf_load_mid (by rfl) _ _ rfl _ _ rfl (bs y.act) _ (fun w hSw => (rangeAt_act hSw.1)) Try.underlying37 rfl (hi37 y.la)) (by assumption) ?_
              try simp only [Act.put, List.setIfInBounds_toArray, List.set_cons_zero, List.set_cons_succ]
              refine wpAnyH_take (i := 13) (oi := ({ dst := some 28, op := Go.Op.fieldAddr 39 (Go.Operand.tmp 4) 0, type := 0, pos := "table.go:25", after := #[{ on := 6, ground := Go.Ground.guard }], guard := some (6, true) } : Oper)) (v := ?_) rfl (by kernel_rfl) (by kernel_rfl) (by kernel_rfl) (fun _ _ _ h => h) (Or.inl ⟨by rfl, ?_⟩) (by assumption) ?_
              rotate_left
              · (intro w hSw; (try dsimp only at hSw); go_simp; try with_reducible rfl)
              try simp only [Act.put, List.setIfInBounds_toArray, List.set_cons_zero, List.set_cons_succ]
              refine wpAnyH_take (i := 14) (oi := ({ dst := some 29, op := Go.Op.load 37 (Go.Operand.tmp 28), type := 37, pos := "table.go:25", after := #[{ on := 13, ground := Go.Ground.data }, { on := 6, ground := Go.Ground.guard }], guard := some (6, true) } : Oper)) (v := .agg (List.toArray (bs x.act))) rfl (by kernel_rfl) (by kernel_rfl) (by kernel_rfl) (fun _ _ _ h => h) (yieldsIf_load_mid (by rfl) _ _ rfl _ _ rfl (bs x.act) _ (fun w hSw => (rangeAt_act hSw.2.1)) Try.underlying37 rfl (hi37 x.la)) (by assumption) ?_
              try simp only [Act.put, List.setIfInBounds_toArray, List.set_cons_zero, List.set_cons_succ]
              refine wpAnyH_ready (rs := [15]) (by kernel_rfl) (by simp) ?_
              refine (AllReadyH.cons (o := ({ dst := some 30, op := Go.Op.call { callee := Go.Callee.value (Go.Operand.func 43), args := #[Go.Operand.tmp 27, Go.Operand.tmp 29], argTypes := #[37, 37] }, type := 4, pos := "table.go:25", after := #[{ on := 12, ground := Go.Ground.data }, { on := 14, ground := Go.Ground.data }, { on := 6, ground := Go.Ground.chain }, { on := 6, ground := Go.Ground.guard }], guard := some (6, true) } : Oper)) rfl (fun K hK => ?_) AllReadyH.nil)
              go_simp
              (refine (BEL.out _).mono ?_; rintro e w' ⟨rfl, hk⟩)
              go_wp2_with fail
              refine hK.out _ _ ?_ (fun hHeld2 => ?_)
              · (try dsimp only); first | exact S2.step hS ((Keep.refl [] _).drew) | exact S2.step (by assumption) hk
              clear hK K
              try simp only [Act.put, List.setIfInBounds_toArray, List.set_cons_zero, List.set_cons_succ]
              refine wpAnyH_take (i := 16) (oi := ({ dst := some 31, op := Go.Op.unOp Go.UnOp.not 4 (Go.Operand.tmp 30), type := 4, pos := "table.go:25", after := #[{ on := 15, ground := Go.Ground.data }, { on := 6, ground := Go.Ground.guard }], guard := some (6, true) } : Oper)) (v := ?_) rfl (by kernel_rfl) (by kernel_rfl) (by kernel_rfl) (fun _ _ _ h => h) (Or.inl ⟨by rfl, ?_⟩) (by assumption) ?_
              rotate_left
              · (intro w hSw; (try dsimp only at hSw); go_simp; try with_reducible rfl)
              try simp only [Act.put, List.setIfInBounds_toArray, List.set_cons_zero, List.set_cons_succ]
              refine wpAnyH_take (i := 17) (oi := ({ dst := some 32, op := Go.Op.pick (Go.Operand.tmp 21) (Go.Operand.tmp 31) (Go.Operand.const (Go.Value.bool false)), type := 4, pos := "table.go:25", after := #[{ on := 6, ground := Go.Ground.data }, { on := 16, ground := Go.Ground.data }, { on := 3, ground := Go.Ground.guard }], guard := some (3, false) } : Oper)) (v := ?_) rfl (by kernel_rfl) (by kernel_rfl) (by kernel_rfl) (fun _ _ _ h => h) (Or.inl ⟨by rfl, ?_⟩) (by assumption) ?_
              rotate_left
              · (intro w hSw; (try dsimp only at hSw); go_simp; try with_reducible rfl)
              try simp only [Act.put, List.setIfInBounds_toArray, List.set_cons_zero, List.set_cons_succ]
              refine wpAnyH_take (i := 18) (oi := ({ dst := some 33, op := Go.Op.pick (Go.Operand.tmp 18) (Go.Operand.const (Go.Value.bool true)) (Go.Operand.tmp 32), type := 4, pos := "table.go:25", after := #[{ on := 3, ground := Go.Ground.data }, { on := 17, ground := Go.Ground.data }], guard := none } : Oper)) (v := ?_) rfl (by kernel_rfl) (by kernel_rfl) (by kernel_rfl) (fun _ _ _ h => h) (Or.inl ⟨by rfl, ?_⟩) (by assumption) ?_
              rotate_left
              · (intro w hSw; (try dsimp only at hSw); go_simp; try with_reducible rfl)
              try simp only [Act.put, List.setIfInBounds_toArray, List.set_cons_zero, List.set_cons_succ]
              refine wpAnyH_done (by kernel_rfl) ?_ _
              refine NoPanic.normal ?_
              go_wp2_with fail; go_returns; exact ⟨by rw [HV.out, okTo_no (by rw [step_next HEX.out HEY.out, HF.out, HLX.out]; rfl) HLT.out]; rfl, kW.trans' ((by assumption : S2 W4 b (off + j * N) y px 0 x _).2.2)⟩
            | true =>
              have BEL := Lib.hid bel
              rw [show decide (Lib.compareBytes y.act x.act < 0) = ltR y x from rfl, hlx] at BEL
              have HLX := Lib.hid hlx
              clear bel hlx
              refine wp_region_noPanic ?_
              refine wp_region_held_drew (S := S2 W4 b (off + j * N) y px 0 x) (by kernel_rfl) ?_ (fun hHeld0 => ?_)
              · (try dsimp only); first | exact S2.step hS ((Keep.refl [] _).drew) | exact S2.step (by assumption) hk
              refine wpAnyH_take (i := 0) (oi := ({ dst := some 15, op := Go.Op.load 39 (Go.Operand.tmp 4), type := 39, pos := "table.go:25", after := #[], guard := none } : Oper)) (v := .agg (List.toArray x.cells)) rfl (by kernel_rfl) (by kernel_rfl) (by kernel_rfl) (fun _ _ _ h => h) (yieldsIf_load_mid (by rfl) _ _ rfl _ _ rfl x.cells _ (fun w hSw => hSw.2.1) Try.underlying39 rfl (hi39 x)) (by assumption) ?_
              try simp only [Act.put, List.setIfInBounds_toArray, List.set_cons_zero, List.set_cons_succ]
              refine wpAnyH_ready (rs := [1]) (by kernel_rfl) (by simp) ?_
              refine (AllReadyH.cons (o := ({ dst := some 16, op := Go.Op.call { callee := Go.Callee.value (Go.Operand.func 42), args := #[Go.Operand.tmp 15], argTypes := #[39] }, type := 4, pos := "table.go:25", after := #[{ on := 0, ground := Go.Ground.data }], guard := none } : Oper)) rfl (fun K hK => ?_) AllReadyH.nil)
              go_simp
              (refine (FIT.out _).mono ?_; rintro e w' ⟨rfl, hk⟩)
              go_wp2_with fail
              refine hK.out _ _ ?_ (fun hHeld1 => ?_)
              · (try dsimp only); first | exact S2.step hS ((Keep.refl [] _).drew) | exact S2.step (by assumption) hk
              clear hK K
              try simp only [Act.put, List.setIfInBounds_toArray, List.set_cons_zero, List.set_cons_succ]
              refine wpAnyH_take (i := 2) (oi := ({ dst := some 17, op := Go.Op.unOp Go.UnOp.not 4 (Go.Operand.tmp 16), type := 4, pos := "table.go:25", after := #[{ on := 1, ground := Go.Ground.data }], guard := none } : Oper)) (v := ?_) rfl (by kernel_rfl) (by kernel_rfl) (by kernel_rfl) (fun _ _ _ h => h) (Or.inl ⟨by rfl, ?_⟩) (by assumption) ?_
              rotate_left
              · (intro w hSw; (try dsimp only at hSw); go_simp; try with_reducible rfl)
              try simp only [Act.put, List.setIfInBounds_toArray, List.set_cons_zero, List.set_cons_succ]
              refine wpAnyH_take (i := 3) (oi := ({ dst := some 18, op := Go.Op.move (Go.Operand.tmp 17), type := 4, pos := "table.go:25", after := #[{ on := 2, ground := Go.Ground.data }, { on := 1, ground := Go.Ground.chain }], guard := none } : Oper)) (v := ?_) rfl (by kernel_rfl) (by kernel_rfl) (by kernel_rfl) (fun _ _ _ h => h) (Or.inl ⟨by rfl, ?_⟩) (by assumption) ?_
              rotate_left
              · (intro w hSw; (try dsimp only at hSw); go_simp; try with_reducible rfl)
              try simp only [Act.put, List.setIfInBounds_toArray, List.set_cons_zero, List.set_cons_succ]
              refine wpAnyH_take (i := 4) (oi := ({ dst := some 19, op := Go.Op.move (Go.Operand.tmp 3), type := 3, pos := "table.go:25", after := #[{ on := 3, ground := Go.Ground.guard }], guard := some (3, false) } : Oper)) (v := ?_) rfl (by kernel_rfl) (by kernel_rfl) (by kernel_rfl) (fun _ _ _ h => h) (Or.inl ⟨by rfl, ?_⟩) (by assumption) ?_
              rotate_left
              · (intro w hSw; (try dsimp only at hSw); go_simp; try with_reducible rfl)
              try simp only [Act.put, List.setIfInBounds_toArray, List.set_cons_zero, List.set_cons_succ]
              refine wpAnyH_take (i := 5) (oi := ({ dst := some 20, op := Go.Op.binOp Go.BinOp.gtr 3 (Go.Operand.tmp 19) (Go.Operand.const (Go.Value.int Go.IntKind.i64 0)) 3, type := 4, pos := "table.go:25", after := #[{ on := 4, ground := Go.Ground.data }, { on := 3, ground := Go.Ground.guard }], guard := some (3, false) } : Oper)) (v := ?_) rfl (by kernel_rfl) (by kernel_rfl) (by kernel_rfl) (fun _ _ _ h => h) (Or.inl ⟨by rfl, ?_⟩) (by assumption) ?_
              rotate_left
              · (intro w hSw; (try dsimp only at hSw); go_simp; try with_reducible rfl)
              try simp only [Act.put, List.setIfInBounds_toArray, List.set_cons_zero, List.set_cons_succ]
              refine wpAnyH_take (i := 6) (oi := ({ dst := some 21, op := Go.Op.move (Go.Operand.tmp 20), type := 4, pos := "table.go:25", after := #[{ on := 5, ground := Go.Ground.data }, { on := 3, ground := Go.Ground.chain }, { on := 3, ground := Go.Ground.guard }], guard := some (3, false) } : Oper)) (v := ?_) rfl (by kernel_rfl) (by kernel_rfl) (by kernel_rfl) (fun _ _ _ h => h) (Or.inl ⟨by rfl, ?_⟩) (by assumption) ?_
              rotate_left
              · (intro w hSw; (try dsimp only at hSw); go_simp; try with_reducible rfl)
              try simp only [Act.put, List.setIfInBounds_toArray, List.set_cons_zero, List.set_cons_succ]
              refine wpAnyH_take (i := 7) (oi := ({ dst := some 22, op := Go.Op.move (Go.Operand.tmp 0), type := 22, pos := "table.go:25", after := #[{ on := 6, ground := Go.Ground.guard }], guard := some (6, true) } : Oper)) (v := ?_) rfl (by kernel_rfl) (by kernel_rfl) (by kernel_rfl) (fun _ _ _ h => h) (Or.inl ⟨by rfl, ?_⟩) (by assumption) ?_
              rotate_left
              · (intro w hSw; (try dsimp only at hSw); go_simp; try with_reducible rfl)
              try simp only [Act.put, List.setIfInBounds_toArray, List.set_cons_zero, List.set_cons_succ]
              refine wpAnyH_take (i := 8) (oi := ({ dst := some 23, op := Go.Op.move (Go.Operand.tmp 3), type := 3, pos := "table.go:25", after := #[{ on := 6, ground := Go.Ground.guard }], guard := some (6, true) } : Oper)) (v := ?_) rfl (by kernel_rfl) (by kernel_rfl) (by kernel_rfl) (fun _ _ _ h => h) (Or.inl ⟨by rfl, ?_⟩) (by assumption) ?_
              rotate_left
              · (intro w hSw; (try dsimp only at hSw); go_simp; try with_reducible rfl)
              try simp only [Act.put, List.setIfInBounds_toArray, List.set_cons_zero, List.set_cons_succ]
              refine wpAnyH_take (i := 9) (oi := ({ dst := some 24, op := Go.Op.binOp Go.BinOp.sub 3 (Go.Operand.tmp 23) (Go.Operand.const (Go.Value.int Go.IntKind.i64 1)) 3, type := 3, pos := "table.go:25", after := #[{ on := 8, ground := Go.Ground.data }, { on := 6, ground := Go.Ground.guard }], guard := some (6, true) } : Oper)) (v := ?_) rfl (by kernel_rfl) (by kernel_rfl) (by kernel_rfl) (fun _ _ _ h => h) (Or.inl ⟨by rfl, ?_⟩) (by assumption) ?_
              rotate_left
              · (intro w hSw; (try dsimp only at hSw); go_simp; try with_reducible rfl)
              try simp only [Act.put, List.setIfInBounds_toArray, List.set_cons_zero, List.set_cons_succ]
              refine wpAnyH_take (i := 10) (oi := ({ dst := some 25, op := Go.Op.indexAddr 22 (Go.Operand.tmp 22) (Go.Operand.tmp 24), type := 0, pos := "table.go:25", after := #[{ on := 7, ground := Go.Ground.data }, { on := 9, ground := Go.Ground.data }, { on := 6, ground := Go.Ground.guard }], guard := some (6, true) } : Oper)) (v := ?_) rfl (by kernel_rfl) (by kernel_rfl) (by kernel_rfl) (fun _ _ _ h => h) (Or.inl ⟨by rfl, ?_⟩) (by assumption) ?_
              rotate_left
              · (intro w hSw; (try dsimp only at hSw); go_simp; try with_reducible rfl)
              try simp only [Act.put, List.setIfInBounds_toArray, List.set_cons_zero, List.set_cons_succ]
              refine wpAnyH_take (i := 11) (oi := ({ dst := some 26, op := Go.Op.fieldAddr 39 (Go.Operand.tmp 25) 0, type := 0, pos := "table.go:25", after := #[{ on := 10, ground := Go.Ground.data }, { on := 6, ground := Go.Ground.guard }], guard := some (6, true) } : Oper)) (v := ?_) rfl (by kernel_rfl) (by kernel_rfl) (by kernel_rfl) (fun _ _ _ h => h) (Or.inl ⟨by rfl, ?_⟩) (by assumption) ?_
              rotate_left
              · (intro w hSw; (try dsimp only at hSw); go_simp; try with_reducible rfl)
              try simp only [Act.put, List.setIfInBounds_toArray, List.set_cons_zero, List.set_cons_succ]
              refine wpAnyH_take (i := 12) (oi := ({ dst := some 27, op := Go.Op.load 37 (Go.Operand.tmp 26), type := 37, pos := "table.go:25", after := #[{ on := 11, ground := Go.Ground.data }, { on := 6, ground := Go.Ground.guard }], guard := some (6, true) } : Oper)) (v := .agg (List.toArray (bs y.act))) rfl (by kernel_rfl) (by kernel_rfl) (by kernel_rfl) (fun _ _ _ h => h) (yieldsIf_load_mid (by rfl) _ _ rfl _ _ rfl (bs y.act) _ (fun w hSw => (rangeAt_act hSw.1)) Try.underlying37 rfl (hi37 y.la)) (by assumption) ?_
              try simp only [Act.put, List.setIfInBounds_toArray, List.set_cons_zero, List.set_cons_succ]
              refine wpAnyH_take (i := 13) (oi := ({ dst := some 28, op := Go.Op.fieldAddr 39 (Go.Operand.tmp 4) 0, type := 0, pos := "table.go:25", after := #[{ on := 6, ground := Go.Ground.guard }], guard := some (6, true) } : Oper)) (v := ?_) rfl (by kernel_rfl) (by kernel_rfl) (by kernel_rfl) (fun _ _ _ h => h) (Or.inl ⟨by rfl, ?_⟩) (by assumption) ?_
              rotate_left
              · (intro w hSw; (try dsimp only at hSw); go_simp; try with_reducible rfl)
              try simp only [Act.put, List.setIfInBounds_toArray, List.set_cons_zero, List.set_cons_succ]
              refine wpAnyH_take (i := 14) (oi := ({ dst := some 29, op := Go.Op.load 37 (Go.Operand.tmp 28), type := 37, pos := "table.go:25", after := #[{ on := 13, ground := Go.Ground.data }, { on := 6, ground := Go.Ground.guard }], guard := some (6, true) } : Oper)) (v := .agg (List.toArray (bs x.act))) rfl (by kernel_rfl) (by kernel_rfl) (by kernel_rfl) (fun _ _ _ h => h) (yieldsIf_load_mid (by rfl) _ _ rfl _ _ rfl (bs x.act) _ (fun w hSw => (rangeAt_act hSw.2.1)) Try.underlying37 rfl (hi37 x.la)) (by assumption) ?_
              try simp only [Act.put, List.setIfInBounds_toArray, List.set_cons_zero, List.set_cons_succ]
              refine wpAnyH_ready (rs := [15]) (by kernel_rfl) (by simp) ?_
              refine (AllReadyH.cons (o := ({ dst := some 30, op := Go.Op.call { callee := Go.Callee.value (Go.Operand.func 43), args := #[Go.Operand.tmp 27, Go.Operand.tmp 29], argTypes := #[37, 37] }, type := 4, pos := "table.go:25", after := #[{ on := 12, ground := Go.Ground.data }, { on := 14, ground := Go.Ground.data }, { on := 6, ground := Go.Ground.chain }, { on := 6, ground := Go.Ground.guard }], guard := some (6, true) } : Oper)) rfl (fun K hK => ?_) AllReadyH.nil)
              go_simp
              (refine (BEL.out _).mono ?_; rintro e w' ⟨rfl, hk⟩)
              go_wp2_with fail
              refine hK.out _ _ ?_ (fun hHeld2 => ?_)
              · (try dsimp only); first | exact S2.step hS ((Keep.refl [] _).drew) | exact S2.step (by assumption) hk
              clear hK K
              try simp only [Act.put, List.setIfInBounds_toArray, List.set_cons_zero, List.set_cons_succ]
              refine wpAnyH_take (i := 16) (oi := ({ dst := some 31, op := Go.Op.unOp Go.UnOp.not 4 (Go.Operand.tmp 30), type := 4, pos := "table.go:25", after := #[{ on := 15, ground := Go.Ground.data }, { on := 6, ground := Go.Ground.guard }], guard := some (6, true) } : Oper)) (v := ?_) rfl (by kernel_rfl) (by kernel_rfl) (by kernel_rfl) (fun _ _ _ h => h) (Or.inl ⟨by rfl, ?_⟩) (by assumption) ?_
              rotate_left
              · (intro w hSw; (try dsimp only at hSw); go_simp; try with_reducible rfl)
              try simp only [Act.put, List.setIfInBounds_toArray, List.set_cons_zero, List.set_cons_succ]
              refine wpAnyH_take (i := 17) (oi := ({ dst := some 32, op := Go.Op.pick (Go.Operand.tmp 21) (Go.Operand.tmp 31) (Go.Operand.const (Go.Value.bool false)), type := 4, pos := "table.go:25", after := #[{ on := 6, ground := Go.Ground.data }, { on := 16, ground := Go.Ground.data }, { on := 3, ground := Go.Ground.guard }], guard := some (3, false) } : Oper)) (v := ?_) rfl (by kernel_rfl) (by kernel_rfl) (by kernel_rfl) (fun _ _ _ h => h) (Or.inl ⟨by rfl, ?_⟩) (by assumption) ?_
              rotate_left
              · (intro w hSw; (try dsimp only at hSw); go_simp; try with_reducible rfl)
              try simp only [Act.put, List.setIfInBounds_toArray, List.set_cons_zero, List.set_cons_succ]
              refine wpAnyH_take (i := 18) (oi := ({ dst := some 33, op := Go.Op.pick (Go.Operand.tmp 18) (Go.Operand.const (Go.Value.bool true)) (Go.Operand.tmp 32), type := 4, pos := "table.go:25", after := #[{ on := 3, ground := Go.Ground.data }, { on := 17, ground := Go.Ground.data }], guard := none } : Oper)) (v := ?_) rfl (by kernel_rfl) (by kernel_rfl) (by kernel_rfl) (fun _ _ _ h => h) (Or.inl ⟨by rfl, ?_⟩) (by assumption) ?_
              rotate_left
              · (intro w hSw; (try dsimp only at hSw); go_simp; try with_reducible rfl)
              try simp only [Act.put, List.setIfInBounds_toArray, List.set_cons_zero, List.set_cons_succ]
              refine wpAnyH_done (by kernel_rfl) ?_ _
              refine NoPanic.normal ?_
              go_wp2_with fail; (try clear j5); exact ⟨⟨j + 1 + 1, by have := HLT.out; omega, by go_num, Lib.hid (by rw [okTo_succ, HO.out, step_next HEX.out HEY.out, HF.out, HLX.out]; rfl), kW.trans' ((by assumption : S2 W4 b (off + j * N) y px 0 x _).2.2)⟩, by have := HLT.out; simp [intOf]; omega⟩
      · obtain rfl : i = n := by omega
        go_wp2_with fail
        go_returns
        exact ⟨by rw [HV.out, HO.out]; rfl, kk⟩
  · have HV := Lib.hid (valid_short (show ¬ l.length ≤ 32 by omega))
    have h33 : (32 : Int) < n := by omega
    clear hl h32
    go_enter Try.func17, Try.ntmps17
    go_wp2_with fail
    go_returns
    exact ⟨by rw [HV.out]; rfl, Keep.refl _ _⟩
end Go.Proofs.Ytjdkeabimcajlaa

/- fits of the law. -/
import Derived.Test.YtjdkeabimcajlaaVb
set_option linter.unusedVariables false
set_option linter.unusedSimpArgs false
namespace Go.Proofs.Ytjdkeabimcajlaa
open Go.RowKit


/-- Three of them, one's code in sight. -/
def Vs3 (W : World) (b o : Nat) (y : Res) (q : Nat) (x : Res) (z : Int) (w : World) : Prop := (w.rangeAt b o y.cells ∧ w.rangeAt b q x.cells) ∧ w.cell? ⟨b, q + 64, none⟩ = some (.int .i64 z) ∧ Keep [] W w
theorem Vs3.step {W w w' : World} {b o q : Nat} {x y : Res} {z : Int} (h : Vs3 W b o y q x z w) (k : Keep [] w w') : Vs3 W b o y q x z w' := ⟨⟨rangeAt_keep h.1.1 k (by simp), rangeAt_keep h.1.2 k (by simp)⟩, k.cell h.2.1 (by simp), h.2.2.trans' k⟩
set_option maxHeartbeats 8000000 in
set_option maxRecDepth 100000 in
theorem lawFits_any (a : Option Addr) (n c : Nat) (l : List Res) (w : World) (hx : RsIn w a n c l) :
    Calls Try.prog 28 #[.slice a n c] w fun e w' => e = .returned (.bool (validR l)) ∧ Keep [] w w' := by
  have hl := hx.hlen
  have m1 := hx.short
  have HL := Lib.hid hl
  clear hl
  obtain ⟨N, hN, hso⟩ := size39
  have HN := Lib.hid hN
  clear hN
  go_enter Try.func28, Try.ntmps28
  go_upto_region 2 with fail
  go_loopw [3] (fun v3 wr => ∃ i, i ≤ n ∧ v3 = .int .i64 (i : Nat) ∧ Hid (okTo l i = true) ∧ Keep [] w wr) (fun v3 _ => n - (intOf v3).toNat)
  case atStart => exact ⟨0, by omega, rfl, Lib.hid (okTo_zero l), Keep.refl _ _⟩
  case round =>
    obtain ⟨i, hi, rfl, HO, kk⟩ := hrel
    by_cases hlt : i < n
    · obtain ⟨x, b, off, ex, rfl, rx⟩ := (hx.keep kk (by simp)).at hlt
      rw [HN.out] at rx
      have i0 : (0 : Int) ≤ i := by omega
      have i1 : (i : Int) < n := by omega
      have HEX := Lib.hid ex
      obtain ⟨z, hz⟩ : ∃ z, x.code = z := ⟨_, rfl⟩
      have cx := rangeAt_code rx
      rw [hz] at cx
      have HZ := Lib.hid hz
      have HLT := Lib.hid hlt
      have hx4 := hx.keep kk (by simp)
      have hS1 : Vs3 wr b (off + i * N) x (off + i * N) x z wr := ⟨⟨rx, rx⟩, cx, Keep.refl _ _⟩
      clear ex hz cx
      by_cases h0 : z < 0
      · have HF := Lib.hid (fit_no HZ.out (Or.inl h0))
        clear hlt rx hx4
        go_upto_region 4 with fail
        refine wp_region_noPanic ?_
        refine wp_region_held_drew (S := Vs3 wr b (off + i * N) x (off + i * N) x z) (by kernel_rfl) ?_ (fun hHeld0 => ?_)
        · (try dsimp only); first | exact Vs3.step hS1 ((Keep.refl [] _).drew) | exact Vs3.step (by assumption) hk
        refine wpAnyH_take (i := 0) (oi := ({ dst := some 10, op := Go.Op.move (Go.Operand.tmp 0), type := 22, pos := "outright.go:23", after := #[], guard := none } : Oper)) (v := ?_) rfl (by kernel_rfl) (by kernel_rfl) (by kernel_rfl) (fun _ _ _ h => h) (Or.inl ⟨by rfl, ?_⟩) (by assumption) ?_
        rotate_left
        · (intro w hSw; (try dsimp only at hSw); go_simp; try with_reducible rfl)
        try simp only [Act.put, List.setIfInBounds_toArray, List.set_cons_zero, List.set_cons_succ]
        refine wpAnyH_take (i := 1) (oi := ({ dst := some 11, op := Go.Op.move (Go.Operand.tmp 3), type := 3, pos := "outright.go:23", after := #[], guard := none } : Oper)) (v := ?_) rfl (by kernel_rfl) (by kernel_rfl) (by kernel_rfl) (fun _ _ _ h => h) (Or.inl ⟨by rfl, ?_⟩) (by assumption) ?_
        rotate_left
        · (intro w hSw; (try dsimp only at hSw); go_simp; try with_reducible rfl)
        try simp only [Act.put, List.setIfInBounds_toArray, List.set_cons_zero, List.set_cons_succ]
        refine wpAnyH_take (i := 2) (oi := ({ dst := some 12, op := Go.Op.indexAddr 22 (Go.Operand.tmp 10) (Go.Operand.tmp 11), type := 0, pos := "outright.go:23", after := #[{ on := 0, ground := Go.Ground.data }, { on := 1, ground := Go.Ground.data }], guard := none } : Oper)) (v := ?_) rfl (by kernel_rfl) (by kernel_rfl) (by kernel_rfl) (fun _ _ _ h => h) (Or.inl ⟨by rfl, ?_⟩) (by assumption) ?_
        rotate_left
        · (intro w hSw; (try dsimp only at hSw); go_simp; try with_reducible rfl)
        try simp only [Act.put, List.setIfInBounds_toArray, List.set_cons_zero, List.set_cons_succ]
        refine wpAnyH_take (i := 3) (oi := ({ dst := some 13, op := Go.Op.fieldAddr 39 (Go.Operand.tmp 12) 2, type := 0, pos := "outright.go:23", after := #[{ on := 2, ground := Go.Ground.data }], guard := none } : Oper)) (v := ?_) rfl (by kernel_rfl) (by kernel_rfl) (by kernel_rfl) (fun _ _ _ h => h) (Or.inl ⟨by rfl, ?_⟩) (by assumption) ?_
        rotate_left
        · (intro w hSw; (try dsimp only at hSw); go_simp; try with_reducible rfl)
        try simp only [Act.put, List.setIfInBounds_toArray, List.set_cons_zero, List.set_cons_succ]
        refine wpAnyH_take (i := 4) (oi := ({ dst := some 14, op := Go.Op.load 3 (Go.Operand.tmp 13), type := 3, pos := "outright.go:23", after := #[{ on := 3, ground := Go.Ground.data }], guard := none } : Oper)) (v := ?_) rfl (by kernel_rfl) (by kernel_rfl) (by kernel_rfl) (fun _ _ _ h => h) (Or.inl ⟨by rfl, ?_⟩) (by assumption) ?_
        rotate_left
        · (intro w hSw; (try dsimp only at hSw); have hcl := hSw.2.1; go_simp; try with_reducible rfl)
        try simp only [Act.put, List.setIfInBounds_toArray, List.set_cons_zero, List.set_cons_succ]
        refine wpAnyH_take (i := 5) (oi := ({ dst := some 15, op := Go.Op.binOp Go.BinOp.lss 3 (Go.Operand.tmp 14) (Go.Operand.const (Go.Value.int Go.IntKind.i64 0)) 3, type := 4, pos := "outright.go:23", after := #[{ on := 4, ground := Go.Ground.data }], guard := none } : Oper)) (v := ?_) rfl (by kernel_rfl) (by kernel_rfl) (by kernel_rfl) (fun _ _ _ h => h) (Or.inl ⟨by rfl, ?_⟩) (by assumption) ?_
        rotate_left
        · (intro w hSw; (try dsimp only at hSw); go_simp; try with_reducible rfl)
        try simp only [Act.put, List.setIfInBounds_toArray, List.set_cons_zero, List.set_cons_succ]
        refine wpAnyH_take (i := 6) (oi := ({ dst := some 16, op := Go.Op.move (Go.Operand.tmp 15), type := 4, pos := "outright.go:23", after := #[{ on := 5, ground := Go.Ground.data }], guard := none } : Oper)) (v := ?_) rfl (by kernel_rfl) (by kernel_rfl) (by kernel_rfl) (fun _ _ _ h => h) (Or.inl ⟨by rfl, ?_⟩) (by assumption) ?_
        rotate_left
        · (intro w hSw; (try dsimp only at hSw); go_simp; try with_reducible rfl)
        try simp only [Act.put, List.setIfInBounds_toArray, List.set_cons_zero, List.set_cons_succ]
        refine wpAnyH_take (i := 7) (oi := ({ dst := some 17, op := Go.Op.move (Go.Operand.tmp 0), type := 22, pos := "outright.go:23", after := #[{ on := 6, ground := Go.Ground.guard }], guard := some (6, false) } : Oper)) (v := undef) rfl (by kernel_rfl) (by kernel_rfl) (by kernel_rfl) (fun _ _ _ h => h) (Or.inr ⟨by rfl, rfl⟩) (by assumption) ?_
        try simp only [Act.put, List.setIfInBounds_toArray, List.set_cons_zero, List.set_cons_succ]
        refine wpAnyH_take (i := 8) (oi := ({ dst := some 18, op := Go.Op.move (Go.Operand.tmp 3), type := 3, pos := "outright.go:23", after := #[{ on := 6, ground := Go.Ground.guard }], guard := some (6, false) } : Oper)) (v := undef) rfl (by kernel_rfl) (by kernel_rfl) (by kernel_rfl) (fun _ _ _ h => h) (Or.inr ⟨by rfl, rfl⟩) (by assumption) ?_
        try simp only [Act.put, List.setIfInBounds_toArray, List.set_cons_zero, List.set_cons_succ]
        refine wpAnyH_take (i := 9) (oi := ({ dst := some 19, op := Go.Op.indexAddr 22 (Go.Operand.tmp 17) (Go.Operand.tmp 18), type := 0, pos := "outright.go:23", after := #[{ on := 7, ground := Go.Ground.data }, { on := 8, ground := Go.Ground.data }, { on := 6, ground := Go.Ground.guard }], guard := some (6, false) } : Oper)) (v := undef) rfl (by kernel_rfl) (by kernel_rfl) (by kernel_rfl) (fun _ _ _ h => h) (Or.inr ⟨by rfl, rfl⟩) (by assumption) ?_
        try simp only [Act.put, List.setIfInBounds_toArray, List.set_cons_zero, List.set_cons_succ]
        refine wpAnyH_take (i := 10) (oi := ({ dst := some 20, op := Go.Op.fieldAddr 39 (Go.Operand.tmp 19) 2, type := 0, pos := "outright.go:23", after := #[{ on := 9, ground := Go.Ground.data }, { on := 6, ground := Go.Ground.guard }], guard := some (6, false) } : Oper)) (v := undef) rfl (by kernel_rfl) (by kernel_rfl) (by kernel_rfl) (fun _ _ _ h => h) (Or.inr ⟨by rfl, rfl⟩) (by assumption) ?_
        try simp only [Act.put, List.setIfInBounds_toArray, List.set_cons_zero, List.set_cons_succ]
        refine wpAnyH_take (i := 11) (oi := ({ dst := some 21, op := Go.Op.load 3 (Go.Operand.tmp 20), type := 3, pos := "outright.go:23", after := #[{ on := 10, ground := Go.Ground.data }, { on := 6, ground := Go.Ground.guard }], guard := some (6, false) } : Oper)) (v := undef) rfl (by kernel_rfl) (by kernel_rfl) (by kernel_rfl) (fun _ _ _ h => h) (Or.inr ⟨by rfl, rfl⟩) (by assumption) ?_
        try simp only [Act.put, List.setIfInBounds_toArray, List.set_cons_zero, List.set_cons_succ]
        refine wpAnyH_take (i := 12) (oi := ({ dst := some 22, op := Go.Op.binOp Go.BinOp.gtr 3 (Go.Operand.tmp 21) (Go.Operand.const (Go.Value.int Go.IntKind.i64 255)) 3, type := 4, pos := "outright.go:23", after := #[{ on := 11, ground := Go.Ground.data }, { on := 6, ground := Go.Ground.guard }], guard := some (6, false) } : Oper)) (v := undef) rfl (by kernel_rfl) (by kernel_rfl) (by kernel_rfl) (fun _ _ _ h => h) (Or.inr ⟨by rfl, rfl⟩) (by assumption) ?_
        try simp only [Act.put, List.setIfInBounds_toArray, List.set_cons_zero, List.set_cons_succ]
        refine wpAnyH_take (i := 13) (oi := ({ dst := some 23, op := Go.Op.pick (Go.Operand.tmp 16) (Go.Operand.const (Go.Value.bool true)) (Go.Operand.tmp 22), type := 4, pos := "outright.go:23", after := #[{ on := 6, ground := Go.Ground.data }, { on := 12, ground := Go.Ground.data }], guard := none } : Oper)) (v := ?_) rfl (by kernel_rfl) (by kernel_rfl) (by kernel_rfl) (fun _ _ _ h => h) (Or.inl ⟨by rfl, ?_⟩) (by assumption) ?_
        rotate_left
        · (intro w hSw; (try dsimp only at hSw); go_simp; try with_reducible rfl)
        try simp only [Act.put, List.setIfInBounds_toArray, List.set_cons_zero, List.set_cons_succ]
        refine wpAnyH_take (i := 14) (oi := ({ dst := some 24, op := Go.Op.move (Go.Operand.tmp 23), type := 4, pos := "outright.go:23", after := #[{ on := 13, ground := Go.Ground.data }, { on := 6, ground := Go.Ground.chain }], guard := none } : Oper)) (v := ?_) rfl (by kernel_rfl) (by kernel_rfl) (by kernel_rfl) (fun _ _ _ h => h) (Or.inl ⟨by rfl, ?_⟩) (by assumption) ?_
        rotate_left
        · (intro w hSw; (try dsimp only at hSw); go_simp; try with_reducible rfl)
        try simp only [Act.put, List.setIfInBounds_toArray, List.set_cons_zero, List.set_cons_succ]
        refine wpAnyH_take (i := 15) (oi := ({ dst := some 25, op := Go.Op.move (Go.Operand.tmp 3), type := 3, pos := "outright.go:23", after := #[{ on := 14, ground := Go.Ground.guard }], guard := some (14, false) } : Oper)) (v := undef) rfl (by kernel_rfl) (by kernel_rfl) (by kernel_rfl) (fun _ _ _ h => h) (Or.inr ⟨by rfl, rfl⟩) (by assumption) ?_
        try simp only [Act.put, List.setIfInBounds_toArray, List.set_cons_zero, List.set_cons_succ]
        refine wpAnyH_take (i := 16) (oi := ({ dst := some 26, op := Go.Op.binOp Go.BinOp.gtr 3 (Go.Operand.tmp 25) (Go.Operand.const (Go.Value.int Go.IntKind.i64 0)) 3, type := 4, pos := "outright.go:23", after := #[{ on := 15, ground := Go.Ground.data }, { on := 14, ground := Go.Ground.guard }], guard := some (14, false) } : Oper)) (v := undef) rfl (by kernel_rfl) (by kernel_rfl) (by kernel_rfl) (fun _ _ _ h => h) (Or.inr ⟨by rfl, rfl⟩) (by assumption) ?_
        try simp only [Act.put, List.setIfInBounds_toArray, List.set_cons_zero, List.set_cons_succ]
        refine wpAnyH_take (i := 17) (oi := ({ dst := some 27, op := Go.Op.move (Go.Operand.tmp 26), type := 4, pos := "outright.go:23", after := #[{ on := 16, ground := Go.Ground.data }, { on := 14, ground := Go.Ground.chain }, { on := 14, ground := Go.Ground.guard }], guard := some (14, false) } : Oper)) (v := undef) rfl (by kernel_rfl) (by kernel_rfl) (by kernel_rfl) (fun _ _ _ h => h) (Or.inr ⟨by rfl, rfl⟩) (by assumption) ?_
        try simp only [Act.put, List.setIfInBounds_toArray, List.set_cons_zero, List.set_cons_succ]
        refine wpAnyH_take (i := 18) (oi := ({ dst := some 28, op := Go.Op.move (Go.Operand.tmp 0), type := 22, pos := "outright.go:23", after := #[{ on := 17, ground := Go.Ground.guard }], guard := some (17, true) } : Oper)) (v := undef) rfl (by kernel_rfl) (by kernel_rfl) (by kernel_rfl) (fun _ _ _ h => h) (Or.inr ⟨by rfl, rfl⟩) (by assumption) ?_
        try simp only [Act.put, List.setIfInBounds_toArray, List.set_cons_zero, List.set_cons_succ]
        refine wpAnyH_take (i := 19) (oi := ({ dst := some 29, op := Go.Op.move (Go.Operand.tmp 3), type := 3, pos := "outright.go:23", after := #[{ on := 17, ground := Go.Ground.guard }], guard := some (17, true) } : Oper)) (v := undef) rfl (by kernel_rfl) (by kernel_rfl) (by kernel_rfl) (fun _ _ _ h => h) (Or.inr ⟨by rfl, rfl⟩) (by assumption) ?_
        try simp only [Act.put, List.setIfInBounds_toArray, List.set_cons_zero, List.set_cons_succ]
        refine wpAnyH_take (i := 20) (oi := ({ dst := some 30, op := Go.Op.binOp Go.BinOp.sub 3 (Go.Operand.tmp 29) (Go.Operand.const (Go.Value.int Go.IntKind.i64 1)) 3, type := 3, pos := "outright.go:23", after := #[{ on := 19, ground := Go.Ground.data }, { on := 17, ground := Go.Ground.guard }], guard := some (17, true) } : Oper)) (v := undef) rfl (by kernel_rfl) (by kernel_rfl) (by kernel_rfl) (fun _ _ _ h => h) (Or.inr ⟨by rfl, rfl⟩) (by assumption) ?_
        try simp only [Act.put, List.setIfInBounds_toArray, List.set_cons_zero, List.set_cons_succ]
        refine wpAnyH_take (i := 21) (oi := ({ dst := some 31, op := Go.Op.indexAddr 22 (Go.Operand.tmp 28) (Go.Operand.tmp 30), type := 0, pos := "outright.go:23", after := #[{ on := 18, ground := Go.Ground.data }, { on := 20, ground := Go.Ground.data }, { on := 17, ground := Go.Ground.guard }], guard := some (17, true) } : Oper)) (v := undef) rfl (by kernel_rfl) (by kernel_rfl) (by kernel_rfl) (fun _ _ _ h => h) (Or.inr ⟨by rfl, rfl⟩) (by assumption) ?_
        try simp only [Act.put, List.setIfInBounds_toArray, List.set_cons_zero, List.set_cons_succ]
        refine wpAnyH_take (i := 22) (oi := ({ dst := some 32, op := Go.Op.fieldAddr 39 (Go.Operand.tmp 31) 0, type := 0, pos := "outright.go:23", after := #[{ on := 21, ground := Go.Ground.data }, { on := 17, ground := Go.Ground.guard }], guard := some (17, true) } : Oper)) (v := undef) rfl (by kernel_rfl) (by kernel_rfl) (by kernel_rfl) (fun _ _ _ h => h) (Or.inr ⟨by rfl, rfl⟩) (by assumption) ?_
        try simp only [Act.put, List.setIfInBounds_toArray, List.set_cons_zero, List.set_cons_succ]
        refine wpAnyH_take (i := 23) (oi := ({ dst := some 33, op := Go.Op.load 37 (Go.Operand.tmp 32), type := 37, pos := "outright.go:23", after := #[{ on := 22, ground := Go.Ground.data }, { on := 17, ground := Go.Ground.guard }], guard := some (17, true) } : Oper)) (v := undef) rfl (by kernel_rfl) (by kernel_rfl) (by kernel_rfl) (fun _ _ _ h => h) (Or.inr ⟨by rfl, rfl⟩) (by assumption) ?_
        try simp only [Act.put, List.setIfInBounds_toArray, List.set_cons_zero, List.set_cons_succ]
        refine wpAnyH_take (i := 24) (oi := ({ dst := some 34, op := Go.Op.move (Go.Operand.tmp 0), type := 22, pos := "outright.go:23", after := #[{ on := 17, ground := Go.Ground.guard }], guard := some (17, true) } : Oper)) (v := undef) rfl (by kernel_rfl) (by kernel_rfl) (by kernel_rfl) (fun _ _ _ h => h) (Or.inr ⟨by rfl, rfl⟩) (by assumption) ?_
        try simp only [Act.put, List.setIfInBounds_toArray, List.set_cons_zero, List.set_cons_succ]
        refine wpAnyH_take (i := 25) (oi := ({ dst := some 35, op := Go.Op.move (Go.Operand.tmp 3), type := 3, pos := "outright.go:23", after := #[{ on := 17, ground := Go.Ground.guard }], guard := some (17, true) } : Oper)) (v := undef) rfl (by kernel_rfl) (by kernel_rfl) (by kernel_rfl) (fun _ _ _ h => h) (Or.inr ⟨by rfl, rfl⟩) (by assumption) ?_
        try simp only [Act.put, List.setIfInBounds_toArray, List.set_cons_zero, List.set_cons_succ]
        refine wpAnyH_take (i := 26) (oi := ({ dst := some 36, op := Go.Op.indexAddr 22 (Go.Operand.tmp 34) (Go.Operand.tmp 35), type := 0, pos := "outright.go:23", after := #[{ on := 24, ground := Go.Ground.data }, { on := 25, ground := Go.Ground.data }, { on := 17, ground := Go.Ground.guard }], guard := some (17, true) } : Oper)) (v := undef) rfl (by kernel_rfl) (by kernel_rfl) (by kernel_rfl) (fun _ _ _ h => h) (Or.inr ⟨by rfl, rfl⟩) (by assumption) ?_
        try simp only [Act.put, List.setIfInBounds_toArray, List.set_cons_zero, List.set_cons_succ]
        refine wpAnyH_take (i := 27) (oi := ({ dst := some 37, op := Go.Op.fieldAddr 39 (Go.Operand.tmp 36) 0, type := 0, pos := "outright.go:23", after := #[{ on := 26, ground := Go.Ground.data }, { on := 17, ground := Go.Ground.guard }], guard := some (17, true) } : Oper)) (v := undef) rfl (by kernel_rfl) (by kernel_rfl) (by kernel_rfl) (fun _ _ _ h => h) (Or.inr ⟨by rfl, rfl⟩) (by assumption) ?_
        try simp only [Act.put, List.setIfInBounds_toArray, List.set_cons_zero, List.set_cons_succ]
        refine wpAnyH_take (i := 28) (oi := ({ dst := some 38, op := Go.Op.load 37 (Go.Operand.tmp 37), type := 37, pos := "outright.go:23", after := #[{ on := 27, ground := Go.Ground.data }, { on := 17, ground := Go.Ground.guard }], guard := some (17, true) } : Oper)) (v := undef) rfl (by kernel_rfl) (by kernel_rfl) (by kernel_rfl) (fun _ _ _ h => h) (Or.inr ⟨by rfl, rfl⟩) (by assumption) ?_
        try simp only [Act.put, List.setIfInBounds_toArray, List.set_cons_zero, List.set_cons_succ]
        refine wpAnyH_take (i := 29) (oi := ({ dst := some 39, op := Go.Op.call { callee := Go.Callee.value (Go.Operand.func 49), args := #[Go.Operand.tmp 33, Go.Operand.tmp 38], argTypes := #[37, 37] }, type := 4, pos := "outright.go:23", after := #[{ on := 23, ground := Go.Ground.data }, { on := 28, ground := Go.Ground.data }, { on := 17, ground := Go.Ground.chain }, { on := 17, ground := Go.Ground.guard }], guard := some (17, true) } : Oper)) (v := undef) rfl (by kernel_rfl) (by kernel_rfl) (by kernel_rfl) (fun _ _ _ h => h) (Or.inr ⟨by rfl, rfl⟩) (by assumption) ?_
        try simp only [Act.put, List.setIfInBounds_toArray, List.set_cons_zero, List.set_cons_succ]
        refine wpAnyH_take (i := 30) (oi := ({ dst := some 40, op := Go.Op.unOp Go.UnOp.not 4 (Go.Operand.tmp 39), type := 4, pos := "outright.go:23", after := #[{ on := 29, ground := Go.Ground.data }, { on := 17, ground := Go.Ground.guard }], guard := some (17, true) } : Oper)) (v := undef) rfl (by kernel_rfl) (by kernel_rfl) (by kernel_rfl) (fun _ _ _ h => h) (Or.inr ⟨by rfl, rfl⟩) (by assumption) ?_
        try simp only [Act.put, List.setIfInBounds_toArray, List.set_cons_zero, List.set_cons_succ]
        refine wpAnyH_take (i := 31) (oi := ({ dst := some 41, op := Go.Op.pick (Go.Operand.tmp 27) (Go.Operand.tmp 40) (Go.Operand.const (Go.Value.bool false)), type := 4, pos := "outright.go:23", after := #[{ on := 17, ground := Go.Ground.data }, { on := 30, ground := Go.Ground.data }, { on := 14, ground := Go.Ground.guard }], guard := some (14, false) } : Oper)) (v := undef) rfl (by kernel_rfl) (by kernel_rfl) (by kernel_rfl) (fun _ _ _ h => h) (Or.inr ⟨by rfl, rfl⟩) (by assumption) ?_
        try simp only [Act.put, List.setIfInBounds_toArray, List.set_cons_zero, List.set_cons_succ]
        refine wpAnyH_take (i := 32) (oi := ({ dst := some 42, op := Go.Op.pick (Go.Operand.tmp 24) (Go.Operand.const (Go.Value.bool true)) (Go.Operand.tmp 41), type := 4, pos := "outright.go:23", after := #[{ on := 14, ground := Go.Ground.data }, { on := 31, ground := Go.Ground.data }], guard := none } : Oper)) (v := ?_) rfl (by kernel_rfl) (by kernel_rfl) (by kernel_rfl) (fun _ _ _ h => h) (Or.inl ⟨by rfl, ?_⟩) (by assumption) ?_
        rotate_left
        · (intro w hSw; (try dsimp only at hSw); go_simp; try with_reducible rfl)
        try simp only [Act.put, List.setIfInBounds_toArray, List.set_cons_zero, List.set_cons_succ]
        refine wpAnyH_done (by kernel_rfl) ?_ _
        refine NoPanic.normal ?_
        go_wp2_with fail; go_returns; exact ⟨by rw [valid_no (by rw [HL.out]; exact okTo_no (step_unfit HEX.out HF.out) HLT.out)]; rfl, kk.trans' ((by assumption : Vs3 wr b (off + i * N) x (off + i * N) x z _).2.2)⟩
      · by_cases h1 : 255 < z
        · have HF := Lib.hid (fit_no HZ.out (Or.inr h1))
          clear hlt rx hx4
          go_upto_region 4 with fail
          refine wp_region_noPanic ?_
          refine wp_region_held_drew (S := Vs3 wr b (off + i * N) x (off + i * N) x z) (by kernel_rfl) ?_ (fun hHeld0 => ?_)
          · (try dsimp only); first | exact Vs3.step hS1 ((Keep.refl [] _).drew) | exact Vs3.step (by assumption) hk
          refine wpAnyH_take (i := 0) (oi := ({ dst := some 10, op := Go.Op.move (Go.Operand.tmp 0), type := 22, pos := "outright.go:23", after := #[], guard := none } : Oper)) (v := ?_) rfl (by kernel_rfl) (by kernel_rfl) (by kernel_rfl) (fun _ _ _ h => h) (Or.inl ⟨by rfl, ?_⟩) (by assumption) ?_
          rotate_left
          · (intro w hSw; (try dsimp only at hSw); go_simp; try with_reducible rfl)
          try simp only [Act.put, List.setIfInBounds_toArray, List.set_cons_zero, List.set_cons_succ]
          refine wpAnyH_take (i := 1) (oi := ({ dst := some 11, op := Go.Op.move (Go.Operand.tmp 3), type := 3, pos := "outright.go:23", after := #[], guard := none } : Oper)) (v := ?_) rfl (by kernel_rfl) (by kernel_rfl) (by kernel_rfl) (fun _ _ _ h => h) (Or.inl ⟨by rfl, ?_⟩) (by assumption) ?_
          rotate_left
          · (intro w hSw; (try dsimp only at hSw); go_simp; try with_reducible rfl)
          try simp only [Act.put, List.setIfInBounds_toArray, List.set_cons_zero, List.set_cons_succ]
          refine wpAnyH_take (i := 2) (oi := ({ dst := some 12, op := Go.Op.indexAddr 22 (Go.Operand.tmp 10) (Go.Operand.tmp 11), type := 0, pos := "outright.go:23", after := #[{ on := 0, ground := Go.Ground.data }, { on := 1, ground := Go.Ground.data }], guard := none } : Oper)) (v := ?_) rfl (by kernel_rfl) (by kernel_rfl) (by kernel_rfl) (fun _ _ _ h => h) (Or.inl ⟨by rfl, ?_⟩) (by assumption) ?_
          rotate_left
          · (intro w hSw; (try dsimp only at hSw); go_simp; try with_reducible rfl)
          try simp only [Act.put, List.setIfInBounds_toArray, List.set_cons_zero, List.set_cons_succ]
          refine wpAnyH_take (i := 3) (oi := ({ dst := some 13, op := Go.Op.fieldAddr 39 (Go.Operand.tmp 12) 2, type := 0, pos := "outright.go:23", after := #[{ on := 2, ground := Go.Ground.data }], guard := none } : Oper)) (v := ?_) rfl (by kernel_rfl) (by kernel_rfl) (by kernel_rfl) (fun _ _ _ h => h) (Or.inl ⟨by rfl, ?_⟩) (by assumption) ?_
          rotate_left
          · (intro w hSw; (try dsimp only at hSw); go_simp; try with_reducible rfl)
          try simp only [Act.put, List.setIfInBounds_toArray, List.set_cons_zero, List.set_cons_succ]
          refine wpAnyH_take (i := 4) (oi := ({ dst := some 14, op := Go.Op.load 3 (Go.Operand.tmp 13), type := 3, pos := "outright.go:23", after := #[{ on := 3, ground := Go.Ground.data }], guard := none } : Oper)) (v := ?_) rfl (by kernel_rfl) (by kernel_rfl) (by kernel_rfl) (fun _ _ _ h => h) (Or.inl ⟨by rfl, ?_⟩) (by assumption) ?_
          rotate_left
          · (intro w hSw; (try dsimp only at hSw); have hcl := hSw.2.1; go_simp; try with_reducible rfl)
          try simp only [Act.put, List.setIfInBounds_toArray, List.set_cons_zero, List.set_cons_succ]
          refine wpAnyH_take (i := 5) (oi := ({ dst := some 15, op := Go.Op.binOp Go.BinOp.lss 3 (Go.Operand.tmp 14) (Go.Operand.const (Go.Value.int Go.IntKind.i64 0)) 3, type := 4, pos := "outright.go:23", after := #[{ on := 4, ground := Go.Ground.data }], guard := none } : Oper)) (v := ?_) rfl (by kernel_rfl) (by kernel_rfl) (by kernel_rfl) (fun _ _ _ h => h) (Or.inl ⟨by rfl, ?_⟩) (by assumption) ?_
          rotate_left
          · (intro w hSw; (try dsimp only at hSw); go_simp; try with_reducible rfl)
          try simp only [Act.put, List.setIfInBounds_toArray, List.set_cons_zero, List.set_cons_succ]
          refine wpAnyH_take (i := 6) (oi := ({ dst := some 16, op := Go.Op.move (Go.Operand.tmp 15), type := 4, pos := "outright.go:23", after := #[{ on := 5, ground := Go.Ground.data }], guard := none } : Oper)) (v := ?_) rfl (by kernel_rfl) (by kernel_rfl) (by kernel_rfl) (fun _ _ _ h => h) (Or.inl ⟨by rfl, ?_⟩) (by assumption) ?_
          rotate_left
          · (intro w hSw; (try dsimp only at hSw); go_simp; try with_reducible rfl)
          try simp only [Act.put, List.setIfInBounds_toArray, List.set_cons_zero, List.set_cons_succ]
          refine wpAnyH_take (i := 7) (oi := ({ dst := some 17, op := Go.Op.move (Go.Operand.tmp 0), type := 22, pos := "outright.go:23", after := #[{ on := 6, ground := Go.Ground.guard }], guard := some (6, false) } : Oper)) (v := ?_) rfl (by kernel_rfl) (by kernel_rfl) (by kernel_rfl) (fun _ _ _ h => h) (Or.inl ⟨by rfl, ?_⟩) (by assumption) ?_
          rotate_left
          · (intro w hSw; (try dsimp only at hSw); go_simp; try with_reducible rfl)
          try simp only [Act.put, List.setIfInBounds_toArray, List.set_cons_zero, List.set_cons_succ]
          refine wpAnyH_take (i := 8) (oi := ({ dst := some 18, op := Go.Op.move (Go.Operand.tmp 3), type := 3, pos := "outright.go:23", after := #[{ on := 6, ground := Go.Ground.guard }], guard := some (6, false) } : Oper)) (v := ?_) rfl (by kernel_rfl) (by kernel_rfl) (by kernel_rfl) (fun _ _ _ h => h) (Or.inl ⟨by rfl, ?_⟩) (by assumption) ?_
          rotate_left
          · (intro w hSw; (try dsimp only at hSw); go_simp; try with_reducible rfl)
          try simp only [Act.put, List.setIfInBounds_toArray, List.set_cons_zero, List.set_cons_succ]
          refine wpAnyH_take (i := 9) (oi := ({ dst := some 19, op := Go.Op.indexAddr 22 (Go.Operand.tmp 17) (Go.Operand.tmp 18), type := 0, pos := "outright.go:23", after := #[{ on := 7, ground := Go.Ground.data }, { on := 8, ground := Go.Ground.data }, { on := 6, ground := Go.Ground.guard }], guard := some (6, false) } : Oper)) (v := ?_) rfl (by kernel_rfl) (by kernel_rfl) (by kernel_rfl) (fun _ _ _ h => h) (Or.inl ⟨by rfl, ?_⟩) (by assumption) ?_
          rotate_left
          · (intro w hSw; (try dsimp only at hSw); go_simp; try with_reducible rfl)
          try simp only [Act.put, List.setIfInBounds_toArray, List.set_cons_zero, List.set_cons_succ]
          refine wpAnyH_take (i := 10) (oi := ({ dst := some 20, op := Go.Op.fieldAddr 39 (Go.Operand.tmp 19) 2, type := 0, pos := "outright.go:23", after := #[{ on := 9, ground := Go.Ground.data }, { on := 6, ground := Go.Ground.guard }], guard := some (6, false) } : Oper)) (v := ?_) rfl (by kernel_rfl) (by kernel_rfl) (by kernel_rfl) (fun _ _ _ h => h) (Or.inl ⟨by rfl, ?_⟩) (by assumption) ?_
          rotate_left
          · (intro w hSw; (try dsimp only at hSw); go_simp; try with_reducible rfl)
          try simp only [Act.put, List.setIfInBounds_toArray, List.set_cons_zero, List.set_cons_succ]
          refine wpAnyH_take (i := 11) (oi := ({ dst := some 21, op := Go.Op.load 3 (Go.Operand.tmp 20), type := 3, pos := "outright.go:23", after := #[{ on := 10, ground := Go.Ground.data }, { on := 6, ground := Go.Ground.guard }], guard := some (6, false) } : Oper)) (v := ?_) rfl (by kernel_rfl) (by kernel_rfl) (by kernel_rfl) (fun _ _ _ h => h) (Or.inl ⟨by rfl, ?_⟩) (by assumption) ?_
          rotate_left
          · (intro w hSw; (try dsimp only at hSw); have hcl := hSw.2.1; go_simp; try with_reducible rfl)
          try simp only [Act.put, List.setIfInBounds_toArray, List.set_cons_zero, List.set_cons_succ]
          refine wpAnyH_take (i := 12) (oi := ({ dst := some 22, op := Go.Op.binOp Go.BinOp.gtr 3 (Go.Operand.tmp 21) (Go.Operand.const (Go.Value.int Go.IntKind.i64 255)) 3, type := 4, pos := "outright.go:23", after := #[{ on := 11, ground := Go.Ground.data }, { on := 6, ground := Go.Ground.guard }], guard := some (6, false) } : Oper)) (v := ?_) rfl (by kernel_rfl) (by kernel_rfl) (by kernel_rfl) (fun _ _ _ h => h) (Or.inl ⟨by rfl, ?_⟩) (by assumption) ?_
          rotate_left
          · (intro w hSw; (try dsimp only at hSw); go_simp; try with_reducible rfl)
          try simp only [Act.put, List.setIfInBounds_toArray, List.set_cons_zero, List.set_cons_succ]
          refine wpAnyH_take (i := 13) (oi := ({ dst := some 23, op := Go.Op.pick (Go.Operand.tmp 16) (Go.Operand.const (Go.Value.bool true)) (Go.Operand.tmp 22), type := 4, pos := "outright.go:23", after := #[{ on := 6, ground := Go.Ground.data }, { on := 12, ground := Go.Ground.data }], guard := none } : Oper)) (v := ?_) rfl (by kernel_rfl) (by kernel_rfl) (by kernel_rfl) (fun _ _ _ h => h) (Or.inl ⟨by rfl, ?_⟩) (by assumption) ?_
          rotate_left
          · (intro w hSw; (try dsimp only at hSw); go_simp; try with_reducible rfl)
          try simp only [Act.put, List.setIfInBounds_toArray, List.set_cons_zero, List.set_cons_succ]
          refine wpAnyH_take (i := 14) (oi := ({ dst := some 24, op := Go.Op.move (Go.Operand.tmp 23), type := 4, pos := "outright.go:23", after := #[{ on := 13, ground := Go.Ground.data }, { on := 6, ground := Go.Ground.chain }], guard := none } : Oper)) (v := ?_) rfl (by kernel_rfl) (by kernel_rfl) (by kernel_rfl) (fun _ _ _ h => h) (Or.inl ⟨by rfl, ?_⟩) (by assumption) ?_
          rotate_left
          · (intro w hSw; (try dsimp only at hSw); go_simp; try with_reducible rfl)
          try simp only [Act.put, List.setIfInBounds_toArray, List.set_cons_zero, List.set_cons_succ]
          refine wpAnyH_take (i := 15) (oi := ({ dst := some 25, op := Go.Op.move (Go.Operand.tmp 3), type := 3, pos := "outright.go:23", after := #[{ on := 14, ground := Go.Ground.guard }], guard := some (14, false) } : Oper)) (v := undef) rfl (by kernel_rfl) (by kernel_rfl) (by kernel_rfl) (fun _ _ _ h => h) (Or.inr ⟨by rfl, rfl⟩) (by assumption) ?_
          try simp only [Act.put, List.setIfInBounds_toArray, List.set_cons_zero, List.set_cons_succ]
          refine wpAnyH_take (i := 16) (oi := ({ dst := some 26, op := Go.Op.binOp Go.BinOp.gtr 3 (Go.Operand.tmp 25) (Go.Operand.const (Go.Value.int Go.IntKind.i64 0)) 3, type := 4, pos := "outright.go:23", after := #[{ on := 15, ground := Go.Ground.data }, { on := 14, ground := Go.Ground.guard }], guard := some (14, false) } : Oper)) (v := undef) rfl (by kernel_rfl) (by kernel_rfl) (by kernel_rfl) (fun _ _ _ h => h) (Or.inr ⟨by rfl, rfl⟩) (by assumption) ?_
          try simp only [Act.put, List.setIfInBounds_toArray, List.set_cons_zero, List.set_cons_succ]
          refine wpAnyH_take (i := 17) (oi := ({ dst := some 27, op := Go.Op.move (Go.Operand.tmp 26), type := 4, pos := "outright.go:23", after := #[{ on := 16, ground := Go.Ground.data }, { on := 14, ground := Go.Ground.chain }, { on := 14, ground := Go.Ground.guard }], guard := some (14, false) } : Oper)) (v := undef) rfl (by kernel_rfl) (by kernel_rfl) (by kernel_rfl) (fun _ _ _ h => h) (Or.inr ⟨by rfl, rfl⟩) (by assumption) ?_
          try simp only [Act.put, List.setIfInBounds_toArray, List.set_cons_zero, List.set_cons_succ]
          refine wpAnyH_take (i := 18) (oi := ({ dst := some 28, op := Go.Op.move (Go.Operand.tmp 0), type := 22, pos := "outright.go:23", after := #[{ on := 17, ground := Go.Ground.guard }], guard := some (17, true) } : Oper)) (v := undef) rfl (by kernel_rfl) (by kernel_rfl) (by kernel_rfl) (fun _ _ _ h => h) (Or.inr ⟨by rfl, rfl⟩) (by assumption) ?_
          try simp only [Act.put, List.setIfInBounds_toArray, List.set_cons_zero, List.set_cons_succ]
          refine wpAnyH_take (i := 19) (oi := ({ dst := some 29, op := Go.Op.move (Go.Operand.tmp 3), type := 3, pos := "outright.go:23", after := #[{ on := 17, ground := Go.Ground.guard }], guard := some (17, true) } : Oper)) (v := undef) rfl (by kernel_rfl) (by kernel_rfl) (by kernel_rfl) (fun _ _ _ h => h) (Or.inr ⟨by rfl, rfl⟩) (by assumption) ?_
          try simp only [Act.put, List.setIfInBounds_toArray, List.set_cons_zero, List.set_cons_succ]
          refine wpAnyH_take (i := 20) (oi := ({ dst := some 30, op := Go.Op.binOp Go.BinOp.sub 3 (Go.Operand.tmp 29) (Go.Operand.const (Go.Value.int Go.IntKind.i64 1)) 3, type := 3, pos := "outright.go:23", after := #[{ on := 19, ground := Go.Ground.data }, { on := 17, ground := Go.Ground.guard }], guard := some (17, true) } : Oper)) (v := undef) rfl (by kernel_rfl) (by kernel_rfl) (by kernel_rfl) (fun _ _ _ h => h) (Or.inr ⟨by rfl, rfl⟩) (by assumption) ?_
          try simp only [Act.put, List.setIfInBounds_toArray, List.set_cons_zero, List.set_cons_succ]
          refine wpAnyH_take (i := 21) (oi := ({ dst := some 31, op := Go.Op.indexAddr 22 (Go.Operand.tmp 28) (Go.Operand.tmp 30), type := 0, pos := "outright.go:23", after := #[{ on := 18, ground := Go.Ground.data }, { on := 20, ground := Go.Ground.data }, { on := 17, ground := Go.Ground.guard }], guard := some (17, true) } : Oper)) (v := undef) rfl (by kernel_rfl) (by kernel_rfl) (by kernel_rfl) (fun _ _ _ h => h) (Or.inr ⟨by rfl, rfl⟩) (by assumption) ?_
          try simp only [Act.put, List.setIfInBounds_toArray, List.set_cons_zero, List.set_cons_succ]
          refine wpAnyH_take (i := 22) (oi := ({ dst := some 32, op := Go.Op.fieldAddr 39 (Go.Operand.tmp 31) 0, type := 0, pos := "outright.go:23", after := #[{ on := 21, ground := Go.Ground.data }, { on := 17, ground := Go.Ground.guard }], guard := some (17, true) } : Oper)) (v := undef) rfl (by kernel_rfl) (by kernel_rfl) (by kernel_rfl) (fun _ _ _ h => h) (Or.inr ⟨by rfl, rfl⟩) (by assumption) ?_
          try simp only [Act.put, List.setIfInBounds_toArray, List.set_cons_zero, List.set_cons_succ]
          refine wpAnyH_take (i := 23) (oi := ({ dst := some 33, op := Go.Op.load 37 (Go.Operand.tmp 32), type := 37, pos := "outright.go:23", after := #[{ on := 22, ground := Go.Ground.data }, { on := 17, ground := Go.Ground.guard }], guard := some (17, true) } : Oper)) (v := undef) rfl (by kernel_rfl) (by kernel_rfl) (by kernel_rfl) (fun _ _ _ h => h) (Or.inr ⟨by rfl, rfl⟩) (by assumption) ?_
          try simp only [Act.put, List.setIfInBounds_toArray, List.set_cons_zero, List.set_cons_succ]
          refine wpAnyH_take (i := 24) (oi := ({ dst := some 34, op := Go.Op.move (Go.Operand.tmp 0), type := 22, pos := "outright.go:23", after := #[{ on := 17, ground := Go.Ground.guard }], guard := some (17, true) } : Oper)) (v := undef) rfl (by kernel_rfl) (by kernel_rfl) (by kernel_rfl) (fun _ _ _ h => h) (Or.inr ⟨by rfl, rfl⟩) (by assumption) ?_
          try simp only [Act.put, List.setIfInBounds_toArray, List.set_cons_zero, List.set_cons_succ]
          refine wpAnyH_take (i := 25) (oi := ({ dst := some 35, op := Go.Op.move (Go.Operand.tmp 3), type := 3, pos := "outright.go:23", after := #[{ on := 17, ground := Go.Ground.guard }], guard := some (17, true) } : Oper)) (v := undef) rfl (by kernel_rfl) (by kernel_rfl) (by kernel_rfl) (fun _ _ _ h => h) (Or.inr ⟨by rfl, rfl⟩) (by assumption) ?_
          try simp only [Act.put, List.setIfInBounds_toArray, List.set_cons_zero, List.set_cons_succ]
          refine wpAnyH_take (i := 26) (oi := ({ dst := some 36, op := Go.Op.indexAddr 22 (Go.Operand.tmp 34) (Go.Operand.tmp 35), type := 0, pos := "outright.go:23", after := #[{ on := 24, ground := Go.Ground.data }, { on := 25, ground := Go.Ground.data }, { on := 17, ground := Go.Ground.guard }], guard := some (17, true) } : Oper)) (v := undef) rfl (by kernel_rfl) (by kernel_rfl) (by kernel_rfl) (fun _ _ _ h => h) (Or.inr ⟨by rfl, rfl⟩) (by assumption) ?_
          try simp only [Act.put, List.setIfInBounds_toArray, List.set_cons_zero, List.set_cons_succ]
          refine wpAnyH_take (i := 27) (oi := ({ dst := some 37, op := Go.Op.fieldAddr 39 (Go.Operand.tmp 36) 0, type := 0, pos := "outright.go:23", after := #[{ on := 26, ground := Go.Ground.data }, { on := 17, ground := Go.Ground.guard }], guard := some (17, true) } : Oper)) (v := undef) rfl (by kernel_rfl) (by kernel_rfl) (by kernel_rfl) (fun _ _ _ h => h) (Or.inr ⟨by rfl, rfl⟩) (by assumption) ?_
          try simp only [Act.put, List.setIfInBounds_toArray, List.set_cons_zero, List.set_cons_succ]
          refine wpAnyH_take (i := 28) (oi := ({ dst := some 38, op := Go.Op.load 37 (Go.Operand.tmp 37), type := 37, pos := "outright.go:23", after := #[{ on := 27, ground := Go.Ground.data }, { on := 17, ground := Go.Ground.guard }], guard := some (17, true) } : Oper)) (v := undef) rfl (by kernel_rfl) (by kernel_rfl) (by kernel_rfl) (fun _ _ _ h => h) (Or.inr ⟨by rfl, rfl⟩) (by assumption) ?_
          try simp only [Act.put, List.setIfInBounds_toArray, List.set_cons_zero, List.set_cons_succ]
          refine wpAnyH_take (i := 29) (oi := ({ dst := some 39, op := Go.Op.call { callee := Go.Callee.value (Go.Operand.func 49), args := #[Go.Operand.tmp 33, Go.Operand.tmp 38], argTypes := #[37, 37] }, type := 4, pos := "outright.go:23", after := #[{ on := 23, ground := Go.Ground.data }, { on := 28, ground := Go.Ground.data }, { on := 17, ground := Go.Ground.chain }, { on := 17, ground := Go.Ground.guard }], guard := some (17, true) } : Oper)) (v := undef) rfl (by kernel_rfl) (by kernel_rfl) (by kernel_rfl) (fun _ _ _ h => h) (Or.inr ⟨by rfl, rfl⟩) (by assumption) ?_
          try simp only [Act.put, List.setIfInBounds_toArray, List.set_cons_zero, List.set_cons_succ]
          refine wpAnyH_take (i := 30) (oi := ({ dst := some 40, op := Go.Op.unOp Go.UnOp.not 4 (Go.Operand.tmp 39), type := 4, pos := "outright.go:23", after := #[{ on := 29, ground := Go.Ground.data }, { on := 17, ground := Go.Ground.guard }], guard := some (17, true) } : Oper)) (v := undef) rfl (by kernel_rfl) (by kernel_rfl) (by kernel_rfl) (fun _ _ _ h => h) (Or.inr ⟨by rfl, rfl⟩) (by assumption) ?_
          try simp only [Act.put, List.setIfInBounds_toArray, List.set_cons_zero, List.set_cons_succ]
          refine wpAnyH_take (i := 31) (oi := ({ dst := some 41, op := Go.Op.pick (Go.Operand.tmp 27) (Go.Operand.tmp 40) (Go.Operand.const (Go.Value.bool false)), type := 4, pos := "outright.go:23", after := #[{ on := 17, ground := Go.Ground.data }, { on := 30, ground := Go.Ground.data }, { on := 14, ground := Go.Ground.guard }], guard := some (14, false) } : Oper)) (v := undef) rfl (by kernel_rfl) (by kernel_rfl) (by kernel_rfl) (fun _ _ _ h => h) (Or.inr ⟨by rfl, rfl⟩) (by assumption) ?_
          try simp only [Act.put, List.setIfInBounds_toArray, List.set_cons_zero, List.set_cons_succ]
          refine wpAnyH_take (i := 32) (oi := ({ dst := some 42, op := Go.Op.pick (Go.Operand.tmp 24) (Go.Operand.const (Go.Value.bool true)) (Go.Operand.tmp 41), type := 4, pos := "outright.go:23", after := #[{ on := 14, ground := Go.Ground.data }, { on := 31, ground := Go.Ground.data }], guard := none } : Oper)) (v := ?_) rfl (by kernel_rfl) (by kernel_rfl) (by kernel_rfl) (fun _ _ _ h => h) (Or.inl ⟨by rfl, ?_⟩) (by assumption) ?_
          rotate_left
          · (intro w hSw; (try dsimp only at hSw); go_simp; try with_reducible rfl)
          try simp only [Act.put, List.setIfInBounds_toArray, List.set_cons_zero, List.set_cons_succ]
          refine wpAnyH_done (by kernel_rfl) ?_ _
          refine NoPanic.normal ?_
          go_wp2_with fail; go_returns; exact ⟨by rw [valid_no (by rw [HL.out]; exact okTo_no (step_unfit HEX.out HF.out) HLT.out)]; rfl, kk.trans' ((by assumption : Vs3 wr b (off + i * N) x (off + i * N) x z _).2.2)⟩
        · have HF := Lib.hid (fit_yes HZ.out (by omega) (by omega))
          go_upto_region 4 with fail
          cases i with
          | zero =>
            have e0 : ((0 : Nat) : Int) = 0 := rfl
            have e1 : off + 0 * N = off := by simp
            simp only [e0]
            rw [e1] at hS1
            have z1 : 0 < n := hlt
            have z2 : (0 : Int) < n := by omega
            clear hlt rx hx4 e1
            refine wp_region_noPanic ?_
            refine wp_region_held_drew (S := Vs3 wr b off x off x z) (by kernel_rfl) ?_ (fun hHeld0 => ?_)
            · (try dsimp only); first | exact Vs3.step hS1 ((Keep.refl [] _).drew) | exact Vs3.step (by assumption) hk
            refine wpAnyH_take (i := 0) (oi := ({ dst := some 10, op := Go.Op.move (Go.Operand.tmp 0), type := 22, pos := "outright.go:23", after := #[], guard := none } : Oper)) (v := ?_) rfl (by kernel_rfl) (by kernel_rfl) (by kernel_rfl) (fun _ _ _ h => h) (Or.inl ⟨by rfl, ?_⟩) (by assumption) ?_
            rotate_left
            · (intro w hSw; (try dsimp only at hSw); go_simp; try with_reducible rfl)
            try simp only [Act.put, List.setIfInBounds_toArray, List.set_cons_zero, List.set_cons_succ]
            refine wpAnyH_take (i := 1) (oi := ({ dst := some 11, op := Go.Op.move (Go.Operand.tmp 3), type := 3, pos := "outright.go:23", after := #[], guard := none } : Oper)) (v := ?_) rfl (by kernel_rfl) (by kernel_rfl) (by kernel_rfl) (fun _ _ _ h => h) (Or.inl ⟨by rfl, ?_⟩) (by assumption) ?_
            rotate_left
            · (intro w hSw; (try dsimp only at hSw); go_simp; try with_reducible rfl)
            try simp only [Act.put, List.setIfInBounds_toArray, List.set_cons_zero, List.set_cons_succ]
            refine wpAnyH_take (i := 2) (oi := ({ dst := some 12, op := Go.Op.indexAddr 22 (Go.Operand.tmp 10) (Go.Operand.tmp 11), type := 0, pos := "outright.go:23", after := #[{ on := 0, ground := Go.Ground.data }, { on := 1, ground := Go.Ground.data }], guard := none } : Oper)) (v := ?_) rfl (by kernel_rfl) (by kernel_rfl) (by kernel_rfl) (fun _ _ _ h => h) (Or.inl ⟨by rfl, ?_⟩) (by assumption) ?_
            rotate_left
            · (intro w hSw; (try dsimp only at hSw); go_simp; try with_reducible rfl)
            try simp only [Act.put, List.setIfInBounds_toArray, List.set_cons_zero, List.set_cons_succ]
            refine wpAnyH_take (i := 3) (oi := ({ dst := some 13, op := Go.Op.fieldAddr 39 (Go.Operand.tmp 12) 2, type := 0, pos := "outright.go:23", after := #[{ on := 2, ground := Go.Ground.data }], guard := none } : Oper)) (v := ?_) rfl (by kernel_rfl) (by kernel_rfl) (by kernel_rfl) (fun _ _ _ h => h) (Or.inl ⟨by rfl, ?_⟩) (by assumption) ?_
            rotate_left
            · (intro w hSw; (try dsimp only at hSw); go_simp; try with_reducible rfl)
            try simp only [Act.put, List.setIfInBounds_toArray, List.set_cons_zero, List.set_cons_succ]
            refine wpAnyH_take (i := 4) (oi := ({ dst := some 14, op := Go.Op.load 3 (Go.Operand.tmp 13), type := 3, pos := "outright.go:23", after := #[{ on := 3, ground := Go.Ground.data }], guard := none } : Oper)) (v := ?_) rfl (by kernel_rfl) (by kernel_rfl) (by kernel_rfl) (fun _ _ _ h => h) (Or.inl ⟨by rfl, ?_⟩) (by assumption) ?_
            rotate_left
            · (intro w hSw; (try dsimp only at hSw); have hcl := hSw.2.1; go_simp; try with_reducible rfl)
            try simp only [Act.put, List.setIfInBounds_toArray, List.set_cons_zero, List.set_cons_succ]
            refine wpAnyH_take (i := 5) (oi := ({ dst := some 15, op := Go.Op.binOp Go.BinOp.lss 3 (Go.Operand.tmp 14) (Go.Operand.const (Go.Value.int Go.IntKind.i64 0)) 3, type := 4, pos := "outright.go:23", after := #[{ on := 4, ground := Go.Ground.data }], guard := none } : Oper)) (v := ?_) rfl (by kernel_rfl) (by kernel_rfl) (by kernel_rfl) (fun _ _ _ h => h) (Or.inl ⟨by rfl, ?_⟩) (by assumption) ?_
            rotate_left
            · (intro w hSw; (try dsimp only at hSw); go_simp; try with_reducible rfl)
            try simp only [Act.put, List.setIfInBounds_toArray, List.set_cons_zero, List.set_cons_succ]
            refine wpAnyH_take (i := 6) (oi := ({ dst := some 16, op := Go.Op.move (Go.Operand.tmp 15), type := 4, pos := "outright.go:23", after := #[{ on := 5, ground := Go.Ground.data }], guard := none } : Oper)) (v := ?_) rfl (by kernel_rfl) (by kernel_rfl) (by kernel_rfl) (fun _ _ _ h => h) (Or.inl ⟨by rfl, ?_⟩) (by assumption) ?_
            rotate_left
            · (intro w hSw; (try dsimp only at hSw); go_simp; try with_reducible rfl)
            try simp only [Act.put, List.setIfInBounds_toArray, List.set_cons_zero, List.set_cons_succ]
            refine wpAnyH_take (i := 7) (oi := ({ dst := some 17, op := Go.Op.move (Go.Operand.tmp 0), type := 22, pos := "outright.go:23", after := #[{ on := 6, ground := Go.Ground.guard }], guard := some (6, false) } : Oper)) (v := ?_) rfl (by kernel_rfl) (by kernel_rfl) (by kernel_rfl) (fun _ _ _ h => h) (Or.inl ⟨by rfl, ?_⟩) (by assumption) ?_
            rotate_left
            · (intro w hSw; (try dsimp only at hSw); go_simp; try with_reducible rfl)
            try simp only [Act.put, List.setIfInBounds_toArray, List.set_cons_zero, List.set_cons_succ]
            refine wpAnyH_take (i := 8) (oi := ({ dst := some 18, op := Go.Op.move (Go.Operand.tmp 3), type := 3, pos := "outright.go:23", after := #[{ on := 6, ground := Go.Ground.guard }], guard := some (6, false) } : Oper)) (v := ?_) rfl (by kernel_rfl) (by kernel_rfl) (by kernel_rfl) (fun _ _ _ h => h) (Or.inl ⟨by rfl, ?_⟩) (by assumption) ?_
            rotate_left
            · (intro w hSw; (try dsimp only at hSw); go_simp; try with_reducible rfl)
            try simp only [Act.put, List.setIfInBounds_toArray, List.set_cons_zero, List.set_cons_succ]
            refine wpAnyH_take (i := 9) (oi := ({ dst := some 19, op := Go.Op.indexAddr 22 (Go.Operand.tmp 17) (Go.Operand.tmp 18), type := 0, pos := "outright.go:23", after := #[{ on := 7, ground := Go.Ground.data }, { on := 8, ground := Go.Ground.data }, { on := 6, ground := Go.Ground.guard }], guard := some (6, false) } : Oper)) (v := ?_) rfl (by kernel_rfl) (by kernel_rfl) (by kernel_rfl) (fun _ _ _ h => h) (Or.inl ⟨by rfl, ?_⟩) (by assumption) ?_
            rotate_left
            · (intro w hSw; (try dsimp only at hSw); go_simp; try with_reducible rfl)
            try simp only [Act.put, List.setIfInBounds_toArray, List.set_cons_zero, List.set_cons_succ]
            refine wpAnyH_take (i := 10) (oi := ({ dst := some 20, op := Go.Op.fieldAddr 39 (Go.Operand.tmp 19) 2, type := 0, pos := "outright.go:23", after := #[{ on := 9, ground := Go.Ground.data }, { on := 6, ground := Go.Ground.guard }], guard := some (6, false) } : Oper)) (v := ?_) rfl (by kernel_rfl) (by kernel_rfl) (by kernel_rfl) (fun _ _ _ h => h) (Or.inl ⟨by rfl, ?_⟩) (by assumption) ?_
            rotate_left
            · (intro w hSw; (try dsimp only at hSw); go_simp; try with_reducible rfl)
            try simp only [Act.put, List.setIfInBounds_toArray, List.set_cons_zero, List.set_cons_succ]
            refine wpAnyH_take (i := 11) (oi := ({ dst := some 21, op := Go.Op.load 3 (Go.Operand.tmp 20), type := 3, pos := "outright.go:23", after := #[{ on := 10, ground := Go.Ground.data }, { on := 6, ground := Go.Ground.guard }], guard := some (6, false) } : Oper)) (v := ?_) rfl (by kernel_rfl) (by kernel_rfl) (by kernel_rfl) (fun _ _ _ h => h) (Or.inl ⟨by rfl, ?_⟩) (by assumption) ?_
            rotate_left
            · (intro w hSw; (try dsimp only at hSw); have hcl := hSw.2.1; go_simp; try with_reducible rfl)
            try simp only [Act.put, List.setIfInBounds_toArray, List.set_cons_zero, List.set_cons_succ]
            refine wpAnyH_take (i := 12) (oi := ({ dst := some 22, op := Go.Op.binOp Go.BinOp.gtr 3 (Go.Operand.tmp 21) (Go.Operand.const (Go.Value.int Go.IntKind.i64 255)) 3, type := 4, pos := "outright.go:23", after := #[{ on := 11, ground := Go.Ground.data }, { on := 6, ground := Go.Ground.guard }], guard := some (6, false) } : Oper)) (v := ?_) rfl (by kernel_rfl) (by kernel_rfl) (by kernel_rfl) (fun _ _ _ h => h) (Or.inl ⟨by rfl, ?_⟩) (by assumption) ?_
            rotate_left
            · (intro w hSw; (try dsimp only at hSw); go_simp; try with_reducible rfl)
            try simp only [Act.put, List.setIfInBounds_toArray, List.set_cons_zero, List.set_cons_succ]
            refine wpAnyH_take (i := 13) (oi := ({ dst := some 23, op := Go.Op.pick (Go.Operand.tmp 16) (Go.Operand.const (Go.Value.bool true)) (Go.Operand.tmp 22), type := 4, pos := "outright.go:23", after := #[{ on := 6, ground := Go.Ground.data }, { on := 12, ground := Go.Ground.data }], guard := none } : Oper)) (v := ?_) rfl (by kernel_rfl) (by kernel_rfl) (by kernel_rfl) (fun _ _ _ h => h) (Or.inl ⟨by rfl, ?_⟩) (by assumption) ?_
            rotate_left
            · (intro w hSw; (try dsimp only at hSw); go_simp; try with_reducible rfl)
            try simp only [Act.put, List.setIfInBounds_toArray, List.set_cons_zero, List.set_cons_succ]
            refine wpAnyH_take (i := 14) (oi := ({ dst := some 24, op := Go.Op.move (Go.Operand.tmp 23), type := 4, pos := "outright.go:23", after := #[{ on := 13, ground := Go.Ground.data }, { on := 6, ground := Go.Ground.chain }], guard := none } : Oper)) (v := ?_) rfl (by kernel_rfl) (by kernel_rfl) (by kernel_rfl) (fun _ _ _ h => h) (Or.inl ⟨by rfl, ?_⟩) (by assumption) ?_
            rotate_left
            · (intro w hSw; (try dsimp only at hSw); go_simp; try with_reducible rfl)
            try simp only [Act.put, List.setIfInBounds_toArray, List.set_cons_zero, List.set_cons_succ]
            refine wpAnyH_take (i := 15) (oi := ({ dst := some 25, op := Go.Op.move (Go.Operand.tmp 3), type := 3, pos := "outright.go:23", after := #[{ on := 14, ground := Go.Ground.guard }], guard := some (14, false) } : Oper)) (v := ?_) rfl (by kernel_rfl) (by kernel_rfl) (by kernel_rfl) (fun _ _ _ h => h) (Or.inl ⟨by rfl, ?_⟩) (by assumption) ?_
            rotate_left
            · (intro w hSw; (try dsimp only at hSw); go_simp; try with_reducible rfl)
            try simp only [Act.put, List.setIfInBounds_toArray, List.set_cons_zero, List.set_cons_succ]
            refine wpAnyH_take (i := 16) (oi := ({ dst := some 26, op := Go.Op.binOp Go.BinOp.gtr 3 (Go.Operand.tmp 25) (Go.Operand.const (Go.Value.int Go.IntKind.i64 0)) 3, type := 4, pos := "outright.go:23", after := #[{ on := 15, ground := Go.Ground.data }, { on := 14, ground := Go.Ground.guard }], guard := some (14, false) } : Oper)) (v := ?_) rfl (by kernel_rfl) (by kernel_rfl) (by kernel_rfl) (fun _ _ _ h => h) (Or.inl ⟨by rfl, ?_⟩) (by assumption) ?_
            rotate_left
            · (intro w hSw; (try dsimp only at hSw); go_simp; try with_reducible rfl)
            try simp only [Act.put, List.setIfInBounds_toArray, List.set_cons_zero, List.set_cons_succ]
            refine wpAnyH_take (i := 17) (oi := ({ dst := some 27, op := Go.Op.move (Go.Operand.tmp 26), type := 4, pos := "outright.go:23", after := #[{ on := 16, ground := Go.Ground.data }, { on := 14, ground := Go.Ground.chain }, { on := 14, ground := Go.Ground.guard }], guard := some (14, false) } : Oper)) (v := ?_) rfl (by kernel_rfl) (by kernel_rfl) (by kernel_rfl) (fun _ _ _ h => h) (Or.inl ⟨by rfl, ?_⟩) (by assumption) ?_
            rotate_left
            · (intro w hSw; (try dsimp only at hSw); go_simp; try with_reducible rfl)
            try simp only [Act.put, List.setIfInBounds_toArray, List.set_cons_zero, List.set_cons_succ]
            refine wpAnyH_take (i := 18) (oi := ({ dst := some 28, op := Go.Op.move (Go.Operand.tmp 0), type := 22, pos := "outright.go:23", after := #[{ on := 17, ground := Go.Ground.guard }], guard := some (17, true) } : Oper)) (v := undef) rfl (by kernel_rfl) (by kernel_rfl) (by kernel_rfl) (fun _ _ _ h => h) (Or.inr ⟨by rfl, rfl⟩) (by assumption) ?_
            try simp only [Act.put, List.setIfInBounds_toArray, List.set_cons_zero, List.set_cons_succ]
            refine wpAnyH_take (i := 19) (oi := ({ dst := some 29, op := Go.Op.move (Go.Operand.tmp 3), type := 3, pos := "outright.go:23", after := #[{ on := 17, ground := Go.Ground.guard }], guard := some (17, true) } : Oper)) (v := undef) rfl (by kernel_rfl) (by kernel_rfl) (by kernel_rfl) (fun _ _ _ h => h) (Or.inr ⟨by rfl, rfl⟩) (by assumption) ?_
            try simp only [Act.put, List.setIfInBounds_toArray, List.set_cons_zero, List.set_cons_succ]
            refine wpAnyH_take (i := 20) (oi := ({ dst := some 30, op := Go.Op.binOp Go.BinOp.sub 3 (Go.Operand.tmp 29) (Go.Operand.const (Go.Value.int Go.IntKind.i64 1)) 3, type := 3, pos := "outright.go:23", after := #[{ on := 19, ground := Go.Ground.data }, { on := 17, ground := Go.Ground.guard }], guard := some (17, true) } : Oper)) (v := undef) rfl (by kernel_rfl) (by kernel_rfl) (by kernel_rfl) (fun _ _ _ h => h) (Or.inr ⟨by rfl, rfl⟩) (by assumption) ?_
            try simp only [Act.put, List.setIfInBounds_toArray, List.set_cons_zero, List.set_cons_succ]
            refine wpAnyH_take (i := 21) (oi := ({ dst := some 31, op := Go.Op.indexAddr 22 (Go.Operand.tmp 28) (Go.Operand.tmp 30), type := 0, pos := "outright.go:23", after := #[{ on := 18, ground := Go.Ground.data }, { on := 20, ground := Go.Ground.data }, { on := 17, ground := Go.Ground.guard }], guard := some (17, true) } : Oper)) (v := undef) rfl (by kernel_rfl) (by kernel_rfl) (by kernel_rfl) (fun _ _ _ h => h) (Or.inr ⟨by rfl, rfl⟩) (by assumption) ?_
            try simp only [Act.put, List.setIfInBounds_toArray, List.set_cons_zero, List.set_cons_succ]
            refine wpAnyH_take (i := 22) (oi := ({ dst := some 32, op := Go.Op.fieldAddr 39 (Go.Operand.tmp 31) 0, type := 0, pos := "outright.go:23", after := #[{ on := 21, ground := Go.Ground.data }, { on := 17, ground := Go.Ground.guard }], guard := some (17, true) } : Oper)) (v := undef) rfl (by kernel_rfl) (by kernel_rfl) (by kernel_rfl) (fun _ _ _ h => h) (Or.inr ⟨by rfl, rfl⟩) (by assumption) ?_
            try simp only [Act.put, List.setIfInBounds_toArray, List.set_cons_zero, List.set_cons_succ]
            refine wpAnyH_take (i := 23) (oi := ({ dst := some 33, op := Go.Op.load 37 (Go.Operand.tmp 32), type := 37, pos := "outright.go:23", after := #[{ on := 22, ground := Go.Ground.data }, { on := 17, ground := Go.Ground.guard }], guard := some (17, true) } : Oper)) (v := undef) rfl (by kernel_rfl) (by kernel_rfl) (by kernel_rfl) (fun _ _ _ h => h) (Or.inr ⟨by rfl, rfl⟩) (by assumption) ?_
            try simp only [Act.put, List.setIfInBounds_toArray, List.set_cons_zero, List.set_cons_succ]
            refine wpAnyH_take (i := 24) (oi := ({ dst := some 34, op := Go.Op.move (Go.Operand.tmp 0), type := 22, pos := "outright.go:23", after := #[{ on := 17, ground := Go.Ground.guard }], guard := some (17, true) } : Oper)) (v := undef) rfl (by kernel_rfl) (by kernel_rfl) (by kernel_rfl) (fun _ _ _ h => h) (Or.inr ⟨by rfl, rfl⟩) (by assumption) ?_
            try simp only [Act.put, List.setIfInBounds_toArray, List.set_cons_zero, List.set_cons_succ]
            refine wpAnyH_take (i := 25) (oi := ({ dst := some 35, op := Go.Op.move (Go.Operand.tmp 3), type := 3, pos := "outright.go:23", after := #[{ on := 17, ground := Go.Ground.guard }], guard := some (17, true) } : Oper)) (v := undef) rfl (by kernel_rfl) (by kernel_rfl) (by kernel_rfl) (fun _ _ _ h => h) (Or.inr ⟨by rfl, rfl⟩) (by assumption) ?_
            try simp only [Act.put, List.setIfInBounds_toArray, List.set_cons_zero, List.set_cons_succ]
            refine wpAnyH_take (i := 26) (oi := ({ dst := some 36, op := Go.Op.indexAddr 22 (Go.Operand.tmp 34) (Go.Operand.tmp 35), type := 0, pos := "outright.go:23", after := #[{ on := 24, ground := Go.Ground.data }, { on := 25, ground := Go.Ground.data }, { on := 17, ground := Go.Ground.guard }], guard := some (17, true) } : Oper)) (v := undef) rfl (by kernel_rfl) (by kernel_rfl) (by kernel_rfl) (fun _ _ _ h => h) (Or.inr ⟨by rfl, rfl⟩) (by assumption) ?_
            try simp only [Act.put, List.setIfInBounds_toArray, List.set_cons_zero, List.set_cons_succ]
            refine wpAnyH_take (i := 27) (oi := ({ dst := some 37, op := Go.Op.fieldAddr 39 (Go.Operand.tmp 36) 0, type := 0, pos := "outright.go:23", after := #[{ on := 26, ground := Go.Ground.data }, { on := 17, ground := Go.Ground.guard }], guard := some (17, true) } : Oper)) (v := undef) rfl (by kernel_rfl) (by kernel_rfl) (by kernel_rfl) (fun _ _ _ h => h) (Or.inr ⟨by rfl, rfl⟩) (by assumption) ?_
            try simp only [Act.put, List.setIfInBounds_toArray, List.set_cons_zero, List.set_cons_succ]
            refine wpAnyH_take (i := 28) (oi := ({ dst := some 38, op := Go.Op.load 37 (Go.Operand.tmp 37), type := 37, pos := "outright.go:23", after := #[{ on := 27, ground := Go.Ground.data }, { on := 17, ground := Go.Ground.guard }], guard := some (17, true) } : Oper)) (v := undef) rfl (by kernel_rfl) (by kernel_rfl) (by kernel_rfl) (fun _ _ _ h => h) (Or.inr ⟨by rfl, rfl⟩) (by assumption) ?_
            try simp only [Act.put, List.setIfInBounds_toArray, List.set_cons_zero, List.set_cons_succ]
            refine wpAnyH_take (i := 29) (oi := ({ dst := some 39, op := Go.Op.call { callee := Go.Callee.value (Go.Operand.func 49), args := #[Go.Operand.tmp 33, Go.Operand.tmp 38], argTypes := #[37, 37] }, type := 4, pos := "outright.go:23", after := #[{ on := 23, ground := Go.Ground.data }, { on := 28, ground := Go.Ground.data }, { on := 17, ground := Go.Ground.chain }, { on := 17, ground := Go.Ground.guard }], guard := some (17, true) } : Oper)) (v := undef) rfl (by kernel_rfl) (by kernel_rfl) (by kernel_rfl) (fun _ _ _ h => h) (Or.inr ⟨by rfl, rfl⟩) (by assumption) ?_
            try simp only [Act.put, List.setIfInBounds_toArray, List.set_cons_zero, List.set_cons_succ]
            refine wpAnyH_take (i := 30) (oi := ({ dst := some 40, op := Go.Op.unOp Go.UnOp.not 4 (Go.Operand.tmp 39), type := 4, pos := "outright.go:23", after := #[{ on := 29, ground := Go.Ground.data }, { on := 17, ground := Go.Ground.guard }], guard := some (17, true) } : Oper)) (v := undef) rfl (by kernel_rfl) (by kernel_rfl) (by kernel_rfl) (fun _ _ _ h => h) (Or.inr ⟨by rfl, rfl⟩) (by assumption) ?_
            try simp only [Act.put, List.setIfInBounds_toArray, List.set_cons_zero, List.set_cons_succ]
            refine wpAnyH_take (i := 31) (oi := ({ dst := some 41, op := Go.Op.pick (Go.Operand.tmp 27) (Go.Operand.tmp 40) (Go.Operand.const (Go.Value.bool false)), type := 4, pos := "outright.go:23", after := #[{ on := 17, ground := Go.Ground.data }, { on := 30, ground := Go.Ground.data }, { on := 14, ground := Go.Ground.guard }], guard := some (14, false) } : Oper)) (v := ?_) rfl (by kernel_rfl) (by kernel_rfl) (by kernel_rfl) (fun _ _ _ h => h) (Or.inl ⟨by rfl, ?_⟩) (by assumption) ?_
            rotate_left
            · (intro w hSw; (try dsimp only at hSw); go_simp; try with_reducible rfl)
            try simp only [Act.put, List.setIfInBounds_toArray, List.set_cons_zero, List.set_cons_succ]
            refine wpAnyH_take (i := 32) (oi := ({ dst := some 42, op := Go.Op.pick (Go.Operand.tmp 24) (Go.Operand.const (Go.Value.bool true)) (Go.Operand.tmp 41), type := 4, pos := "outright.go:23", after := #[{ on := 14, ground := Go.Ground.data }, { on := 31, ground := Go.Ground.data }], guard := none } : Oper)) (v := ?_) rfl (by kernel_rfl) (by kernel_rfl) (by kernel_rfl) (fun _ _ _ h => h) (Or.inl ⟨by rfl, ?_⟩) (by assumption) ?_
            rotate_left
            · (intro w hSw; (try dsimp only at hSw); go_simp; try with_reducible rfl)
            try simp only [Act.put, List.setIfInBounds_toArray, List.set_cons_zero, List.set_cons_succ]
            refine wpAnyH_done (by kernel_rfl) ?_ _
            refine NoPanic.normal ?_
            go_wp2_with fail; (try clear j5); exact ⟨⟨1, by have := HLT.out; omega, by go_num, Lib.hid (by rw [okTo_succ, HO.out, step_first HEX.out, HF.out]; rfl), kk.trans' ((by assumption : Vs3 wr b off x off x z _).2.2)⟩, by have := HLT.out; simp [intOf]; omega⟩
          | succ j =>
            obtain ⟨y, b', off', ey, e', ry⟩ := hx4.at (show j < n by omega)
            obtain ⟨rfl, rfl⟩ : b = b' ∧ off = off' := by simpa using e'
            rw [HN.out] at ry
            have hS : Vs3 wr b (off + j * N) y (off + (j + 1) * N) x z wr := ⟨⟨ry, rx⟩, hS1.2.1, Keep.refl _ _⟩
            have HEY := Lib.hid ey
            have ord := fun W => lawBelow_any y.act x.act W y.la x.la
            have e1 : ((j + 1 : Nat) : Int) = (j : Int) + 1 := by omega
            simp only [e1]
            have j1 : (0 : Int) < (j : Int) + 1 := by omega
            have j2 : (j : Int) < n := by omega
            have j3 : (0 : Int) ≤ j := by omega
            have j4 : (j : Int) ≤ 9223372036854775807 := by omega
            have j6 : (j : Int) + 1 < n := by omega
            have j7 : (0 : Int) ≤ (j : Int) + 1 := by omega
            have j8 : ((j : Int) + 1).toNat = j + 1 := by omega
            have j5 : IntKind.i64.wrap (j : Int) = j := IntWalk.i64_in _ (by omega)
            clear hlt rx hx4 i0 i1 e1 e' ey ry
            cases hlx : ltR y x with
            | false =>
              rw [show decide (Lib.compareBytes y.act x.act < 0) = ltR y x from rfl, hlx] at ord
              have ORD := Lib.hid ord
              have HLX := Lib.hid hlx
              clear ord hlx hS1
              refine wp_region_noPanic ?_
              refine wp_region_held_drew (S := Vs3 wr b (off + j * N) y (off + (j + 1) * N) x z) (by kernel_rfl) ?_ (fun hHeld0 => ?_)
              · (try dsimp only); first | exact Vs3.step hS ((Keep.refl [] _).drew) | exact Vs3.step (by assumption) hk
              refine wpAnyH_take (i := 0) (oi := ({ dst := some 10, op := Go.Op.move (Go.Operand.tmp 0), type := 22, pos := "outright.go:23", after := #[], guard := none } : Oper)) (v := ?_) rfl (by kernel_rfl) (by kernel_rfl) (by kernel_rfl) (fun _ _ _ h => h) (Or.inl ⟨by rfl, ?_⟩) (by assumption) ?_
              rotate_left
              · (intro w hSw; (try dsimp only at hSw); go_simp; try with_reducible rfl)
              try simp only [Act.put, List.setIfInBounds_toArray, List.set_cons_zero, List.set_cons_succ]
              refine wpAnyH_take (i := 1) (oi := ({ dst := some 11, op := Go.Op.move (Go.Operand.tmp 3), type := 3, pos := "outright.go:23", after := #[], guard := none } : Oper)) (v := ?_) rfl (by kernel_rfl) (by kernel_rfl) (by kernel_rfl) (fun _ _ _ h => h) (Or.inl ⟨by rfl, ?_⟩) (by assumption) ?_
              rotate_left
              · (intro w hSw; (try dsimp only at hSw); go_simp; try with_reducible rfl)
              try simp only [Act.put, List.setIfInBounds_toArray, List.set_cons_zero, List.set_cons_succ]
              refine wpAnyH_take (i := 2) (oi := ({ dst := some 12, op := Go.Op.indexAddr 22 (Go.Operand.tmp 10) (Go.Operand.tmp 11), type := 0, pos := "outright.go:23", after := #[{ on := 0, ground := Go.Ground.data }, { on := 1, ground := Go.Ground.data }], guard := none } : Oper)) (v := ?_) rfl (by kernel_rfl) (by kernel_rfl) (by kernel_rfl) (fun _ _ _ h => h) (Or.inl ⟨by rfl, ?_⟩) (by assumption) ?_
              rotate_left
              · (intro w hSw; (try dsimp only at hSw); go_simp; try with_reducible rfl)
              try simp only [Act.put, List.setIfInBounds_toArray, List.set_cons_zero, List.set_cons_succ]
              refine wpAnyH_take (i := 3) (oi := ({ dst := some 13, op := Go.Op.fieldAddr 39 (Go.Operand.tmp 12) 2, type := 0, pos := "outright.go:23", after := #[{ on := 2, ground := Go.Ground.data }], guard := none } : Oper)) (v := ?_) rfl (by kernel_rfl) (by kernel_rfl) (by kernel_rfl) (fun _ _ _ h => h) (Or.inl ⟨by rfl, ?_⟩) (by assumption) ?_
              rotate_left
              · (intro w hSw; (try dsimp only at hSw); go_simp; try with_reducible rfl)
              try simp only [Act.put, List.setIfInBounds_toArray, List.set_cons_zero, List.set_cons_succ]
              refine wpAnyH_take (i := 4) (oi := ({ dst := some 14, op := Go.Op.load 3 (Go.Operand.tmp 13), type := 3, pos := "outright.go:23", after := #[{ on := 3, ground := Go.Ground.data }], guard := none } : Oper)) (v := ?_) rfl (by kernel_rfl) (by kernel_rfl) (by kernel_rfl) (fun _ _ _ h => h) (Or.inl ⟨by rfl, ?_⟩) (by assumption) ?_
              rotate_left
              · (intro w hSw; (try dsimp only at hSw); have hcl := hSw.2.1; go_simp; try with_reducible rfl)
              try simp only [Act.put, List.setIfInBounds_toArray, List.set_cons_zero, List.set_cons_succ]
              refine wpAnyH_take (i := 5) (oi := ({ dst := some 15, op := Go.Op.binOp Go.BinOp.lss 3 (Go.Operand.tmp 14) (Go.Operand.const (Go.Value.int Go.IntKind.i64 0)) 3, type := 4, pos := "outright.go:23", after := #[{ on := 4, ground := Go.Ground.data }], guard := none } : Oper)) (v := ?_) rfl (by kernel_rfl) (by kernel_rfl) (by kernel_rfl) (fun _ _ _ h => h) (Or.inl ⟨by rfl, ?_⟩) (by assumption) ?_
              rotate_left
              · (intro w hSw; (try dsimp only at hSw); go_simp; try with_reducible rfl)
              try simp only [Act.put, List.setIfInBounds_toArray, List.set_cons_zero, List.set_cons_succ]
              refine wpAnyH_take (i := 6) (oi := ({ dst := some 16, op := Go.Op.move (Go.Operand.tmp 15), type := 4, pos := "outright.go:23", after := #[{ on := 5, ground := Go.Ground.data }], guard := none } : Oper)) (v := ?_) rfl (by kernel_rfl) (by kernel_rfl) (by kernel_rfl) (fun _ _ _ h => h) (Or.inl ⟨by rfl, ?_⟩) (by assumption) ?_
              rotate_left
              · (intro w hSw; (try dsimp only at hSw); go_simp; try with_reducible rfl)
              try simp only [Act.put, List.setIfInBounds_toArray, List.set_cons_zero, List.set_cons_succ]
              refine wpAnyH_take (i := 7) (oi := ({ dst := some 17, op := Go.Op.move (Go.Operand.tmp 0), type := 22, pos := "outright.go:23", after := #[{ on := 6, ground := Go.Ground.guard }], guard := some (6, false) } : Oper)) (v := ?_) rfl (by kernel_rfl) (by kernel_rfl) (by kernel_rfl) (fun _ _ _ h => h) (Or.inl ⟨by rfl, ?_⟩) (by assumption) ?_
              rotate_left
              · (intro w hSw; (try dsimp only at hSw); go_simp; try with_reducible rfl)
              try simp only [Act.put, List.setIfInBounds_toArray, List.set_cons_zero, List.set_cons_succ]
              refine wpAnyH_take (i := 8) (oi := ({ dst := some 18, op := Go.Op.move (Go.Operand.tmp 3), type := 3, pos := "outright.go:23", after := #[{ on := 6, ground := Go.Ground.guard }], guard := some (6, false) } : Oper)) (v := ?_) rfl (by kernel_rfl) (by kernel_rfl) (by kernel_rfl) (fun _ _ _ h => h) (Or.inl ⟨by rfl, ?_⟩) (by assumption) ?_
              rotate_left
              · (intro w hSw; (try dsimp only at hSw); go_simp; try with_reducible rfl)
              try simp only [Act.put, List.setIfInBounds_toArray, List.set_cons_zero, List.set_cons_succ]
              refine wpAnyH_take (i := 9) (oi := ({ dst := some 19, op := Go.Op.indexAddr 22 (Go.Operand.tmp 17) (Go.Operand.tmp 18), type := 0, pos := "outright.go:23", after := #[{ on := 7, ground := Go.Ground.data }, { on := 8, ground := Go.Ground.data }, { on := 6, ground := Go.Ground.guard }], guard := some (6, false) } : Oper)) (v := ?_) rfl (by kernel_rfl) (by kernel_rfl) (by kernel_rfl) (fun _ _ _ h => h) (Or.inl ⟨by rfl, ?_⟩) (by assumption) ?_
              rotate_left
              · (intro w hSw; (try dsimp only at hSw); go_simp; try with_reducible rfl)
              try simp only [Act.put, List.setIfInBounds_toArray, List.set_cons_zero, List.set_cons_succ]
              refine wpAnyH_take (i := 10) (oi := ({ dst := some 20, op := Go.Op.fieldAddr 39 (Go.Operand.tmp 19) 2, type := 0, pos := "outright.go:23", after := #[{ on := 9, ground := Go.Ground.data }, { on := 6, ground := Go.Ground.guard }], guard := some (6, false) } : Oper)) (v := ?_) rfl (by kernel_rfl) (by kernel_rfl) (by kernel_rfl) (fun _ _ _ h => h) (Or.inl ⟨by rfl, ?_⟩) (by assumption) ?_
              rotate_left
              · (intro w hSw; (try dsimp only at hSw); go_simp; try with_reducible rfl)
              try simp only [Act.put, List.setIfInBounds_toArray, List.set_cons_zero, List.set_cons_succ]
              refine wpAnyH_take (i := 11) (oi := ({ dst := some 21, op := Go.Op.load 3 (Go.Operand.tmp 20), type := 3, pos := "outright.go:23", after := #[{ on := 10, ground := Go.Ground.data }, { on := 6, ground := Go.Ground.guard }], guard := some (6, false) } : Oper)) (v := ?_) rfl (by kernel_rfl) (by kernel_rfl) (by kernel_rfl) (fun _ _ _ h => h) (Or.inl ⟨by rfl, ?_⟩) (by assumption) ?_
              rotate_left
              · (intro w hSw; (try dsimp only at hSw); have hcl := hSw.2.1; go_simp; try with_reducible rfl)
              try simp only [Act.put, List.setIfInBounds_toArray, List.set_cons_zero, List.set_cons_succ]
              refine wpAnyH_take (i := 12) (oi := ({ dst := some 22, op := Go.Op.binOp Go.BinOp.gtr 3 (Go.Operand.tmp 21) (Go.Operand.const (Go.Value.int Go.IntKind.i64 255)) 3, type := 4, pos := "outright.go:23", after := #[{ on := 11, ground := Go.Ground.data }, { on := 6, ground := Go.Ground.guard }], guard := some (6, false) } : Oper)) (v := ?_) rfl (by kernel_rfl) (by kernel_rfl) (by kernel_rfl) (fun _ _ _ h => h) (Or.inl ⟨by rfl, ?_⟩) (by assumption) ?_
              rotate_left
              · (intro w hSw; (try dsimp only at hSw); go_simp; try with_reducible rfl)
              try simp only [Act.put, List.setIfInBounds_toArray, List.set_cons_zero, List.set_cons_succ]
              refine wpAnyH_take (i := 13) (oi := ({ dst := some 23, op := Go.Op.pick (Go.Operand.tmp 16) (Go.Operand.const (Go.Value.bool true)) (Go.Operand.tmp 22), type := 4, pos := "outright.go:23", after := #[{ on := 6, ground := Go.Ground.data }, { on := 12, ground := Go.Ground.data }], guard := none } : Oper)) (v := ?_) rfl (by kernel_rfl) (by kernel_rfl) (by kernel_rfl) (fun _ _ _ h => h) (Or.inl ⟨by rfl, ?_⟩) (by assumption) ?_
              rotate_left
              · (intro w hSw; (try dsimp only at hSw); go_simp; try with_reducible rfl)
              try simp only [Act.put, List.setIfInBounds_toArray, List.set_cons_zero, List.set_cons_succ]
              refine wpAnyH_take (i := 14) (oi := ({ dst := some 24, op := Go.Op.move (Go.Operand.tmp 23), type := 4, pos := "outright.go:23", after := #[{ on := 13, ground := Go.Ground.data }, { on := 6, ground := Go.Ground.chain }], guard := none } : Oper)) (v := ?_) rfl (by kernel_rfl) (by kernel_rfl) (by kernel_rfl) (fun _ _ _ h => h) (Or.inl ⟨by rfl, ?_⟩) (by assumption) ?_
              rotate_left
              · (intro w hSw; (try dsimp only at hSw); go_simp; try with_reducible rfl)
              try simp only [Act.put, List.setIfInBounds_toArray, List.set_cons_zero, List.set_cons_succ]
              refine wpAnyH_take (i := 15) (oi := ({ dst := some 25, op := Go.Op.move (Go.Operand.tmp 3), type := 3, pos := "outright.go:23", after := #[{ on := 14, ground := Go.Ground.guard }], guard := some (14, false) } : Oper)) (v := ?_) rfl (by kernel_rfl) (by kernel_rfl) (by kernel_rfl) (fun _ _ _ h => h) (Or.inl ⟨by rfl, ?_⟩) (by assumption) ?_
              rotate_left
              · (intro w hSw; (try dsimp only at hSw); go_simp; try with_reducible rfl)
              try simp only [Act.put, List.setIfInBounds_toArray, List.set_cons_zero, List.set_cons_succ]
              refine wpAnyH_take (i := 16) (oi := ({ dst := some 26, op := Go.Op.binOp Go.BinOp.gtr 3 (Go.Operand.tmp 25) (Go.Operand.const (Go.Value.int Go.IntKind.i64 0)) 3, type := 4, pos := "outright.go:23", after := #[{ on := 15, ground := Go.Ground.data }, { on := 14, ground := Go.Ground.guard }], guard := some (14, false) } : Oper)) (v := ?_) rfl (by kernel_rfl) (by kernel_rfl) (by kernel_rfl) (fun _ _ _ h => h) (Or.inl ⟨by rfl, ?_⟩) (by assumption) ?_
              rotate_left
              · (intro w hSw; (try dsimp only at hSw); go_simp; try with_reducible rfl)
              try simp only [Act.put, List.setIfInBounds_toArray, List.set_cons_zero, List.set_cons_succ]
              refine wpAnyH_take (i := 17) (oi := ({ dst := some 27, op := Go.Op.move (Go.Operand.tmp 26), type := 4, pos := "outright.go:23", after := #[{ on := 16, ground := Go.Ground.data }, { on := 14, ground := Go.Ground.chain }, { on := 14, ground := Go.Ground.guard }], guard := some (14, false) } : Oper)) (v := ?_) rfl (by kernel_rfl) (by kernel_rfl) (by kernel_rfl) (fun _ _ _ h => h) (Or.inl ⟨by rfl, ?_⟩) (by assumption) ?_
              rotate_left
              · (intro w hSw; (try dsimp only at hSw); go_simp; try with_reducible rfl)
              try simp only [Act.put, List.setIfInBounds_toArray, List.set_cons_zero, List.set_cons_succ]
              refine wpAnyH_take (i := 18) (oi := ({ dst := some 28, op := Go.Op.move (Go.Operand.tmp 0), type := 22, pos := "outright.go:23", after := #[{ on := 17, ground := Go.Ground.guard }], guard := some (17, true) } : Oper)) (v := ?_) rfl (by kernel_rfl) (by kernel_rfl) (by kernel_rfl) (fun _ _ _ h => h) (Or.inl ⟨by rfl, ?_⟩) (by assumption) ?_
              rotate_left
              · (intro w hSw; (try dsimp only at hSw); go_simp; try with_reducible rfl)
              try simp only [Act.put, List.setIfInBounds_toArray, List.set_cons_zero, List.set_cons_succ]
              refine wpAnyH_take (i := 19) (oi := ({ dst := some 29, op := Go.Op.move (Go.Operand.tmp 3), type := 3, pos := "outright.go:23", after := #[{ on := 17, ground := Go.Ground.guard }], guard := some (17, true) } : Oper)) (v := ?_) rfl (by kernel_rfl) (by kernel_rfl) (by kernel_rfl) (fun _ _ _ h => h) (Or.inl ⟨by rfl, ?_⟩) (by assumption) ?_
              rotate_left
              · (intro w hSw; (try dsimp only at hSw); go_simp; try with_reducible rfl)
              try simp only [Act.put, List.setIfInBounds_toArray, List.set_cons_zero, List.set_cons_succ]
              refine wpAnyH_take (i := 20) (oi := ({ dst := some 30, op := Go.Op.binOp Go.BinOp.sub 3 (Go.Operand.tmp 29) (Go.Operand.const (Go.Value.int Go.IntKind.i64 1)) 3, type := 3, pos := "outright.go:23", after := #[{ on := 19, ground := Go.Ground.data }, { on := 17, ground := Go.Ground.guard }], guard := some (17, true) } : Oper)) (v := ?_) rfl (by kernel_rfl) (by kernel_rfl) (by kernel_rfl) (fun _ _ _ h => h) (Or.inl ⟨by rfl, ?_⟩) (by assumption) ?_
              rotate_left
              · (intro w hSw; (try dsimp only at hSw); go_simp; try with_reducible rfl)
              try simp only [Act.put, List.setIfInBounds_toArray, List.set_cons_zero, List.set_cons_succ]
              refine wpAnyH_take (i := 21) (oi := ({ dst := some 31, op := Go.Op.indexAddr 22 (Go.Operand.tmp 28) (Go.Operand.tmp 30), type := 0, pos := "outright.go:23", after := #[{ on := 18, ground := Go.Ground.data }, { on := 20, ground := Go.Ground.data }, { on := 17, ground := Go.Ground.guard }], guard := some (17, true) } : Oper)) (v := ?_) rfl (by kernel_rfl) (by kernel_rfl) (by kernel_rfl) (fun _ _ _ h => h) (Or.inl ⟨by rfl, ?_⟩) (by assumption) ?_
              rotate_left
              · (intro w hSw; (try dsimp only at hSw); go_simp; try with_reducible rfl)
              try simp only [Act.put, List.setIfInBounds_toArray, List.set_cons_zero, List.set_cons_succ]
              refine wpAnyH_take (i := 22) (oi := ({ dst := some 32, op := Go.Op.fieldAddr 39 (Go.Operand.tmp 31) 0, type := 0, pos := "outright.go:23", after := #[{ on := 21, ground := Go.Ground.data }, { on := 17, ground := Go.Ground.guard }], guard := some (17, true) } : Oper)) (v := ?_) rfl (by kernel_rfl) (by kernel_rfl) (by kernel_rfl) (fun _ _ _ h => h) (Or.inl ⟨by rfl, ?_⟩) (by assumption) ?_
              rotate_left
              · (intro w hSw; (try dsimp only at hSw); go_simp; try with_reducible rfl)
              try simp only [Act.put, List.setIfInBounds_toArray, List.set_cons_zero, List.set_cons_succ]
              refine wpAnyH_take (i := 23) (oi := ({ dst := some 33, op := Go.Op.load 37 (Go.Operand.tmp 32), type := 37, pos := "outright.go:23", after := #[{ on := 22, ground := Go.Ground.data }, { on := 17, ground := Go.Ground.guard }], guard := some (17, true) } : Oper)) (v := .agg (List.toArray (bs y.act))) rfl (by kernel_rfl) (by kernel_rfl) (by kernel_rfl) (fun _ _ _ h => h) (yieldsIf_load_mid (by rfl) _ _ rfl _ _ rfl (bs y.act) _ (fun w hSw => (rangeAt_act hSw.1.1)) Try.underlying37 rfl (hi37 y.la)) (by assumption) ?_
              try simp only [Act.put, List.setIfInBounds_toArray, List.set_cons_zero, List.set_cons_succ]
              refine wpAnyH_take (i := 24) (oi := ({ dst := some 34, op := Go.Op.move (Go.Operand.tmp 0), type := 22, pos := "outright.go:23", after := #[{ on := 17, ground := Go.Ground.guard }], guard := some (17, true) } : Oper)) (v := ?_) rfl (by kernel_rfl) (by kernel_rfl) (by kernel_rfl) (fun _ _ _ h => h) (Or.inl ⟨by rfl, ?_⟩) (by assumption) ?_
              rotate_left
              · (intro w hSw; (try dsimp only at hSw); go_simp; try with_reducible rfl)
              try simp only [Act.put, List.setIfInBounds_toArray, List.set_cons_zero, List.set_cons_succ]
              refine wpAnyH_take (i := 25) (oi := ({ dst := some 35, op := Go.Op.move (Go.Operand.tmp 3), type := 3, pos := "outright.go:23", after := #[{ on := 17, ground := Go.Ground.guard }], guard := some (17, true) } : Oper)) (v := ?_) rfl (by kernel_rfl) (by kernel_rfl) (by kernel_rfl) (fun _ _ _ h => h) (Or.inl ⟨by rfl, ?_⟩) (by assumption) ?_
              rotate_left
              · (intro w hSw; (try dsimp only at hSw); go_simp; try with_reducible rfl)
              try simp only [Act.put, List.setIfInBounds_toArray, List.set_cons_zero, List.set_cons_succ]
              refine wpAnyH_take (i := 26) (oi := ({ dst := some 36, op := Go.Op.indexAddr 22 (Go.Operand.tmp 34) (Go.Operand.tmp 35), type := 0, pos := "outright.go:23", after := #[{ on := 24, ground := Go.Ground.data }, { on := 25, ground := Go.Ground.data }, { on := 17, ground := Go.Ground.guard }], guard := some (17, true) } : Oper)) (v := ?_) rfl (by kernel_rfl) (by kernel_rfl) (by kernel_rfl) (fun _ _ _ h => h) (Or.inl ⟨by rfl, ?_⟩) (by assumption) ?_
              rotate_left
              · (intro w hSw; (try dsimp only at hSw); go_simp; try with_reducible rfl)
              try simp only [Act.put, List.setIfInBounds_toArray, List.set_cons_zero, List.set_cons_succ]
              refine wpAnyH_take (i := 27) (oi := ({ dst := some 37, op := Go.Op.fieldAddr 39 (Go.Operand.tmp 36) 0, type := 0, pos := "outright.go:23", after := #[{ on := 26, ground := Go.Ground.data }, { on := 17, ground := Go.Ground.guard }], guard := some (17, true) } : Oper)) (v := ?_) rfl (by kernel_rfl) (by kernel_rfl) (by kernel_rfl) (fun _ _ _ h => h) (Or.inl ⟨by rfl, ?_⟩) (by assumption) ?_
              rotate_left
              · (intro w hSw; (try dsimp only at hSw); go_simp; try with_reducible rfl)
              try simp only [Act.put, List.setIfInBounds_toArray, List.set_cons_zero, List.set_cons_succ]
              refine wpAnyH_take (i := 28) (oi := ({ dst := some 38, op := Go.Op.load 37 (Go.Operand.tmp 37), type := 37, pos := "outright.go:23", after := #[{ on := 27, ground := Go.Ground.data }, { on := 17, ground := Go.Ground.guard }], guard := some (17, true) } : Oper)) (v := .agg (List.toArray (bs x.act))) rfl (by kernel_rfl) (by kernel_rfl) (by kernel_rfl) (fun _ _ _ h => h) (yieldsIf_load_mid (by rfl) _ _ rfl _ _ rfl (bs x.act) _ (fun w hSw => (rangeAt_act hSw.1.2)) Try.underlying37 rfl (hi37 x.la)) (by assumption) ?_
              try simp only [Act.put, List.setIfInBounds_toArray, List.set_cons_zero, List.set_cons_succ]
              refine wpAnyH_ready (rs := [29]) (by kernel_rfl) (by simp) ?_
              refine (AllReadyH.cons (o := ({ dst := some 39, op := Go.Op.call { callee := Go.Callee.value (Go.Operand.func 49), args := #[Go.Operand.tmp 33, Go.Operand.tmp 38], argTypes := #[37, 37] }, type := 4, pos := "outright.go:23", after := #[{ on := 23, ground := Go.Ground.data }, { on := 28, ground := Go.Ground.data }, { on := 17, ground := Go.Ground.chain }, { on := 17, ground := Go.Ground.guard }], guard := some (17, true) } : Oper)) rfl (fun K hK => ?_) AllReadyH.nil)
              go_simp
              (refine (ORD.out _).mono ?_; rintro e w' ⟨rfl, hk⟩)
              go_wp2_with fail
              refine hK.out _ _ ?_ (fun hHeld1 => ?_)
              · (try dsimp only); first | exact Vs3.step hS ((Keep.refl [] _).drew) | exact Vs3.step (by assumption) hk
              clear hK K
              try simp only [Act.put, List.setIfInBounds_toArray, List.set_cons_zero, List.set_cons_succ]
              refine wpAnyH_take (i := 30) (oi := ({ dst := some 40, op := Go.Op.unOp Go.UnOp.not 4 (Go.Operand.tmp 39), type := 4, pos := "outright.go:23", after := #[{ on := 29, ground := Go.Ground.data }, { on := 17, ground := Go.Ground.guard }], guard := some (17, true) } : Oper)) (v := ?_) rfl (by kernel_rfl) (by kernel_rfl) (by kernel_rfl) (fun _ _ _ h => h) (Or.inl ⟨by rfl, ?_⟩) (by assumption) ?_
              rotate_left
              · (intro w hSw; (try dsimp only at hSw); go_simp; try with_reducible rfl)
              try simp only [Act.put, List.setIfInBounds_toArray, List.set_cons_zero, List.set_cons_succ]
              refine wpAnyH_take (i := 31) (oi := ({ dst := some 41, op := Go.Op.pick (Go.Operand.tmp 27) (Go.Operand.tmp 40) (Go.Operand.const (Go.Value.bool false)), type := 4, pos := "outright.go:23", after := #[{ on := 17, ground := Go.Ground.data }, { on := 30, ground := Go.Ground.data }, { on := 14, ground := Go.Ground.guard }], guard := some (14, false) } : Oper)) (v := ?_) rfl (by kernel_rfl) (by kernel_rfl) (by kernel_rfl) (fun _ _ _ h => h) (Or.inl ⟨by rfl, ?_⟩) (by assumption) ?_
              rotate_left
              · (intro w hSw; (try dsimp only at hSw); go_simp; try with_reducible rfl)
              try simp only [Act.put, List.setIfInBounds_toArray, List.set_cons_zero, List.set_cons_succ]
              refine wpAnyH_take (i := 32) (oi := ({ dst := some 42, op := Go.Op.pick (Go.Operand.tmp 24) (Go.Operand.const (Go.Value.bool true)) (Go.Operand.tmp 41), type := 4, pos := "outright.go:23", after := #[{ on := 14, ground := Go.Ground.data }, { on := 31, ground := Go.Ground.data }], guard := none } : Oper)) (v := ?_) rfl (by kernel_rfl) (by kernel_rfl) (by kernel_rfl) (fun _ _ _ h => h) (Or.inl ⟨by rfl, ?_⟩) (by assumption) ?_
              rotate_left
              · (intro w hSw; (try dsimp only at hSw); go_simp; try with_reducible rfl)
              try simp only [Act.put, List.setIfInBounds_toArray, List.set_cons_zero, List.set_cons_succ]
              refine wpAnyH_done (by kernel_rfl) ?_ _
              refine NoPanic.normal ?_
              go_wp2_with fail; go_returns; exact ⟨by rw [valid_no (by rw [HL.out]; exact okTo_no (by rw [step_next HEX.out HEY.out, HF.out, HLX.out]; rfl) HLT.out)]; rfl, kk.trans' ((by assumption : Vs3 wr b (off + j * N) y (off + (j + 1) * N) x z _).2.2)⟩
            | true =>
              rw [show decide (Lib.compareBytes y.act x.act < 0) = ltR y x from rfl, hlx] at ord
              have ORD := Lib.hid ord
              have HLX := Lib.hid hlx
              clear ord hlx hS1
              refine wp_region_noPanic ?_
              refine wp_region_held_drew (S := Vs3 wr b (off + j * N) y (off + (j + 1) * N) x z) (by kernel_rfl) ?_ (fun hHeld0 => ?_)
              · (try dsimp only); first | exact Vs3.step hS ((Keep.refl [] _).drew) | exact Vs3.step (by assumption) hk
              refine wpAnyH_take (i := 0) (oi := ({ dst := some 10, op := Go.Op.move (Go.Operand.tmp 0), type := 22, pos := "outright.go:23", after := #[], guard := none } : Oper)) (v := ?_) rfl (by kernel_rfl) (by kernel_rfl) (by kernel_rfl) (fun _ _ _ h => h) (Or.inl ⟨by rfl, ?_⟩) (by assumption) ?_
              rotate_left
              · (intro w hSw; (try dsimp only at hSw); go_simp; try with_reducible rfl)
              try simp only [Act.put, List.setIfInBounds_toArray, List.set_cons_zero, List.set_cons_succ]
              refine wpAnyH_take (i := 1) (oi := ({ dst := some 11, op := Go.Op.move (Go.Operand.tmp 3), type := 3, pos := "outright.go:23", after := #[], guard := none } : Oper)) (v := ?_) rfl (by kernel_rfl) (by kernel_rfl) (by kernel_rfl) (fun _ _ _ h => h) (Or.inl ⟨by rfl, ?_⟩) (by assumption) ?_
              rotate_left
              · (intro w hSw; (try dsimp only at hSw); go_simp; try with_reducible rfl)
              try simp only [Act.put, List.setIfInBounds_toArray, List.set_cons_zero, List.set_cons_succ]
              refine wpAnyH_take (i := 2) (oi := ({ dst := some 12, op := Go.Op.indexAddr 22 (Go.Operand.tmp 10) (Go.Operand.tmp 11), type := 0, pos := "outright.go:23", after := #[{ on := 0, ground := Go.Ground.data }, { on := 1, ground := Go.Ground.data }], guard := none } : Oper)) (v := ?_) rfl (by kernel_rfl) (by kernel_rfl) (by kernel_rfl) (fun _ _ _ h => h) (Or.inl ⟨by rfl, ?_⟩) (by assumption) ?_
              rotate_left
              · (intro w hSw; (try dsimp only at hSw); go_simp; try with_reducible rfl)
              try simp only [Act.put, List.setIfInBounds_toArray, List.set_cons_zero, List.set_cons_succ]
              refine wpAnyH_take (i := 3) (oi := ({ dst := some 13, op := Go.Op.fieldAddr 39 (Go.Operand.tmp 12) 2, type := 0, pos := "outright.go:23", after := #[{ on := 2, ground := Go.Ground.data }], guard := none } : Oper)) (v := ?_) rfl (by kernel_rfl) (by kernel_rfl) (by kernel_rfl) (fun _ _ _ h => h) (Or.inl ⟨by rfl, ?_⟩) (by assumption) ?_
              rotate_left
              · (intro w hSw; (try dsimp only at hSw); go_simp; try with_reducible rfl)
              try simp only [Act.put, List.setIfInBounds_toArray, List.set_cons_zero, List.set_cons_succ]
              refine wpAnyH_take (i := 4) (oi := ({ dst := some 14, op := Go.Op.load 3 (Go.Operand.tmp 13), type := 3, pos := "outright.go:23", after := #[{ on := 3, ground := Go.Ground.data }], guard := none } : Oper)) (v := ?_) rfl (by kernel_rfl) (by kernel_rfl) (by kernel_rfl) (fun _ _ _ h => h) (Or.inl ⟨by rfl, ?_⟩) (by assumption) ?_
              rotate_left
              · (intro w hSw; (try dsimp only at hSw); have hcl := hSw.2.1; go_simp; try with_reducible rfl)
              try simp only [Act.put, List.setIfInBounds_toArray, List.set_cons_zero, List.set_cons_succ]
              refine wpAnyH_take (i := 5) (oi := ({ dst := some 15, op := Go.Op.binOp Go.BinOp.lss 3 (Go.Operand.tmp 14) (Go.Operand.const (Go.Value.int Go.IntKind.i64 0)) 3, type := 4, pos := "outright.go:23", after := #[{ on := 4, ground := Go.Ground.data }], guard := none } : Oper)) (v := ?_) rfl (by kernel_rfl) (by kernel_rfl) (by kernel_rfl) (fun _ _ _ h => h) (Or.inl ⟨by rfl, ?_⟩) (by assumption) ?_
              rotate_left
              · (intro w hSw; (try dsimp only at hSw); go_simp; try with_reducible rfl)
              try simp only [Act.put, List.setIfInBounds_toArray, List.set_cons_zero, List.set_cons_succ]
              refine wpAnyH_take (i := 6) (oi := ({ dst := some 16, op := Go.Op.move (Go.Operand.tmp 15), type := 4, pos := "outright.go:23", after := #[{ on := 5, ground := Go.Ground.data }], guard := none } : Oper)) (v := ?_) rfl (by kernel_rfl) (by kernel_rfl) (by kernel_rfl) (fun _ _ _ h => h) (Or.inl ⟨by rfl, ?_⟩) (by assumption) ?_
              rotate_left
              · (intro w hSw; (try dsimp only at hSw); go_simp; try with_reducible rfl)
              try simp only [Act.put, List.setIfInBounds_toArray, List.set_cons_zero, List.set_cons_succ]
              refine wpAnyH_take (i := 7) (oi := ({ dst := some 17, op := Go.Op.move (Go.Operand.tmp 0), type := 22, pos := "outright.go:23", after := #[{ on := 6, ground := Go.Ground.guard }], guard := some (6, false) } : Oper)) (v := ?_) rfl (by kernel_rfl) (by kernel_rfl) (by kernel_rfl) (fun _ _ _ h => h) (Or.inl ⟨by rfl, ?_⟩) (by assumption) ?_
              rotate_left
              · (intro w hSw; (try dsimp only at hSw); go_simp; try with_reducible rfl)
              try simp only [Act.put, List.setIfInBounds_toArray, List.set_cons_zero, List.set_cons_succ]
              refine wpAnyH_take (i := 8) (oi := ({ dst := some 18, op := Go.Op.move (Go.Operand.tmp 3), type := 3, pos := "outright.go:23", after := #[{ on := 6, ground := Go.Ground.guard }], guard := some (6, false) } : Oper)) (v := ?_) rfl (by kernel_rfl) (by kernel_rfl) (by kernel_rfl) (fun _ _ _ h => h) (Or.inl ⟨by rfl, ?_⟩) (by assumption) ?_
              rotate_left
              · (intro w hSw; (try dsimp only at hSw); go_simp; try with_reducible rfl)
              try simp only [Act.put, List.setIfInBounds_toArray, List.set_cons_zero, List.set_cons_succ]
              refine wpAnyH_take (i := 9) (oi := ({ dst := some 19, op := Go.Op.indexAddr 22 (Go.Operand.tmp 17) (Go.Operand.tmp 18), type := 0, pos := "outright.go:23", after := #[{ on := 7, ground := Go.Ground.data }, { on := 8, ground := Go.Ground.data }, { on := 6, ground := Go.Ground.guard }], guard := some (6, false) } : Oper)) (v := ?_) rfl (by kernel_rfl) (by kernel_rfl) (by kernel_rfl) (fun _ _ _ h => h) (Or.inl ⟨by rfl, ?_⟩) (by assumption) ?_
              rotate_left
              · (intro w hSw; (try dsimp only at hSw); go_simp; try with_reducible rfl)
              try simp only [Act.put, List.setIfInBounds_toArray, List.set_cons_zero, List.set_cons_succ]
              refine wpAnyH_take (i := 10) (oi := ({ dst := some 20, op := Go.Op.fieldAddr 39 (Go.Operand.tmp 19) 2, type := 0, pos := "outright.go:23", after := #[{ on := 9, ground := Go.Ground.data }, { on := 6, ground := Go.Ground.guard }], guard := some (6, false) } : Oper)) (v := ?_) rfl (by kernel_rfl) (by kernel_rfl) (by kernel_rfl) (fun _ _ _ h => h) (Or.inl ⟨by rfl, ?_⟩) (by assumption) ?_
              rotate_left
              · (intro w hSw; (try dsimp only at hSw); go_simp; try with_reducible rfl)
              try simp only [Act.put, List.setIfInBounds_toArray, List.set_cons_zero, List.set_cons_succ]
              refine wpAnyH_take (i := 11) (oi := ({ dst := some 21, op := Go.Op.load 3 (Go.Operand.tmp 20), type := 3, pos := "outright.go:23", after := #[{ on := 10, ground := Go.Ground.data }, { on := 6, ground := Go.Ground.guard }], guard := some (6, false) } : Oper)) (v := ?_) rfl (by kernel_rfl) (by kernel_rfl) (by kernel_rfl) (fun _ _ _ h => h) (Or.inl ⟨by rfl, ?_⟩) (by assumption) ?_
              rotate_left
              · (intro w hSw; (try dsimp only at hSw); have hcl := hSw.2.1; go_simp; try with_reducible rfl)
              try simp only [Act.put, List.setIfInBounds_toArray, List.set_cons_zero, List.set_cons_succ]
              refine wpAnyH_take (i := 12) (oi := ({ dst := some 22, op := Go.Op.binOp Go.BinOp.gtr 3 (Go.Operand.tmp 21) (Go.Operand.const (Go.Value.int Go.IntKind.i64 255)) 3, type := 4, pos := "outright.go:23", after := #[{ on := 11, ground := Go.Ground.data }, { on := 6, ground := Go.Ground.guard }], guard := some (6, false) } : Oper)) (v := ?_) rfl (by kernel_rfl) (by kernel_rfl) (by kernel_rfl) (fun _ _ _ h => h) (Or.inl ⟨by rfl, ?_⟩) (by assumption) ?_
              rotate_left
              · (intro w hSw; (try dsimp only at hSw); go_simp; try with_reducible rfl)
              try simp only [Act.put, List.setIfInBounds_toArray, List.set_cons_zero, List.set_cons_succ]
              refine wpAnyH_take (i := 13) (oi := ({ dst := some 23, op := Go.Op.pick (Go.Operand.tmp 16) (Go.Operand.const (Go.Value.bool true)) (Go.Operand.tmp 22), type := 4, pos := "outright.go:23", after := #[{ on := 6, ground := Go.Ground.data }, { on := 12, ground := Go.Ground.data }], guard := none } : Oper)) (v := ?_) rfl (by kernel_rfl) (by kernel_rfl) (by kernel_rfl) (fun _ _ _ h => h) (Or.inl ⟨by rfl, ?_⟩) (by assumption) ?_
              rotate_left
              · (intro w hSw; (try dsimp only at hSw); go_simp; try with_reducible rfl)
              try simp only [Act.put, List.setIfInBounds_toArray, List.set_cons_zero, List.set_cons_succ]
              refine wpAnyH_take (i := 14) (oi := ({ dst := some 24, op := Go.Op.move (Go.Operand.tmp 23), type := 4, pos := "outright.go:23", after := #[{ on := 13, ground := Go.Ground.data }, { on := 6, ground := Go.Ground.chain }], guard := none } : Oper)) (v := ?_) rfl (by kernel_rfl) (by kernel_rfl) (by kernel_rfl) (fun _ _ _ h => h) (Or.inl ⟨by rfl, ?_⟩) (by assumption) ?_
              rotate_left
              · (intro w hSw; (try dsimp only at hSw); go_simp; try with_reducible rfl)
              try simp only [Act.put, List.setIfInBounds_toArray, List.set_cons_zero, List.set_cons_succ]
              refine wpAnyH_take (i := 15) (oi := ({ dst := some 25, op := Go.Op.move (Go.Operand.tmp 3), type := 3, pos := "outright.go:23", after := #[{ on := 14, ground := Go.Ground.guard }], guard := some (14, false) } : Oper)) (v := ?_) rfl (by kernel_rfl) (by kernel_rfl) (by kernel_rfl) (fun _ _ _ h => h) (Or.inl ⟨by rfl, ?_⟩) (by assumption) ?_
              rotate_left
              · (intro w hSw; (try dsimp only at hSw); go_simp; try with_reducible rfl)
              try simp only [Act.put, List.setIfInBounds_toArray, List.set_cons_zero, List.set_cons_succ]
              refine wpAnyH_take (i := 16) (oi := ({ dst := some 26, op := Go.Op.binOp Go.BinOp.gtr 3 (Go.Operand.tmp 25) (Go.Operand.const (Go.Value.int Go.IntKind.i64 0)) 3, type := 4, pos := "outright.go:23", after := #[{ on := 15, ground := Go.Ground.data }, { on := 14, ground := Go.Ground.guard }], guard := some (14, false) } : Oper)) (v := ?_) rfl (by kernel_rfl) (by kernel_rfl) (by kernel_rfl) (fun _ _ _ h => h) (Or.inl ⟨by rfl, ?_⟩) (by assumption) ?_
              rotate_left
              · (intro w hSw; (try dsimp only at hSw); go_simp; try with_reducible rfl)
              try simp only [Act.put, List.setIfInBounds_toArray, List.set_cons_zero, List.set_cons_succ]
              refine wpAnyH_take (i := 17) (oi := ({ dst := some 27, op := Go.Op.move (Go.Operand.tmp 26), type := 4, pos := "outright.go:23", after := #[{ on := 16, ground := Go.Ground.data }, { on := 14, ground := Go.Ground.chain }, { on := 14, ground := Go.Ground.guard }], guard := some (14, false) } : Oper)) (v := ?_) rfl (by kernel_rfl) (by kernel_rfl) (by kernel_rfl) (fun _ _ _ h => h) (Or.inl ⟨by rfl, ?_⟩) (by assumption) ?_
              rotate_left
              · (intro w hSw; (try dsimp only at hSw); go_simp; try with_reducible rfl)
              try simp only [Act.put, List.setIfInBounds_toArray, List.set_cons_zero, List.set_cons_succ]
              refine wpAnyH_take (i := 18) (oi := ({ dst := some 28, op := Go.Op.move (Go.Operand.tmp 0), type := 22, pos := "outright.go:23", after := #[{ on := 17, ground := Go.Ground.guard }], guard := some (17, true) } : Oper)) (v := ?_) rfl (by kernel_rfl) (by kernel_rfl) (by kernel_rfl) (fun _ _ _ h => h) (Or.inl ⟨by rfl, ?_⟩) (by assumption) ?_
              rotate_left
              · (intro w hSw; (try dsimp only at hSw); go_simp; try with_reducible rfl)
              try simp only [Act.put, List.setIfInBounds_toArray, List.set_cons_zero, List.set_cons_succ]
              refine wpAnyH_take (i := 19) (oi := ({ dst := some 29, op := Go.Op.move (Go.Operand.tmp 3), type := 3, pos := "outright.go:23", after := #[{ on := 17, ground := Go.Ground.guard }], guard := some (17, true) } : Oper)) (v := ?_) rfl (by kernel_rfl) (by kernel_rfl) (by kernel_rfl) (fun _ _ _ h => h) (Or.inl ⟨by rfl, ?_⟩) (by assumption) ?_
              rotate_left
              · (intro w hSw; (try dsimp only at hSw); go_simp; try with_reducible rfl)
              try simp only [Act.put, List.setIfInBounds_toArray, List.set_cons_zero, List.set_cons_succ]
              refine wpAnyH_take (i := 20) (oi := ({ dst := some 30, op := Go.Op.binOp Go.BinOp.sub 3 (Go.Operand.tmp 29) (Go.Operand.const (Go.Value.int Go.IntKind.i64 1)) 3, type := 3, pos := "outright.go:23", after := #[{ on := 19, ground := Go.Ground.data }, { on := 17, ground := Go.Ground.guard }], guard := some (17, true) } : Oper)) (v := ?_) rfl (by kernel_rfl) (by kernel_rfl) (by kernel_rfl) (fun _ _ _ h => h) (Or.inl ⟨by rfl, ?_⟩) (by assumption) ?_
              rotate_left
              · (intro w hSw; (try dsimp only at hSw); go_simp; try with_reducible rfl)
              try simp only [Act.put, List.setIfInBounds_toArray, List.set_cons_zero, List.set_cons_succ]
              refine wpAnyH_take (i := 21) (oi := ({ dst := some 31, op := Go.Op.indexAddr 22 (Go.Operand.tmp 28) (Go.Operand.tmp 30), type := 0, pos := "outright.go:23", after := #[{ on := 18, ground := Go.Ground.data }, { on := 20, ground := Go.Ground.data }, { on := 17, ground := Go.Ground.guard }], guard := some (17, true) } : Oper)) (v := ?_) rfl (by kernel_rfl) (by kernel_rfl) (by kernel_rfl) (fun _ _ _ h => h) (Or.inl ⟨by rfl, ?_⟩) (by assumption) ?_
              rotate_left
              · (intro w hSw; (try dsimp only at hSw); go_simp; try with_reducible rfl)
              try simp only [Act.put, List.setIfInBounds_toArray, List.set_cons_zero, List.set_cons_succ]
              refine wpAnyH_take (i := 22) (oi := ({ dst := some 32, op := Go.Op.fieldAddr 39 (Go.Operand.tmp 31) 0, type := 0, pos := "outright.go:23", after := #[{ on := 21, ground := Go.Ground.data }, { on := 17, ground := Go.Ground.guard }], guard := some (17, true) } : Oper)) (v := ?_) rfl (by kernel_rfl) (by kernel_rfl) (by kernel_rfl) (fun _ _ _ h => h) (Or.inl ⟨by rfl, ?_⟩) (by assumption) ?_
              rotate_left
              · (intro w hSw; (try dsimp only at hSw); go_simp; try with_reducible rfl)
              try simp only [Act.put, List.setIfInBounds_toArray, List.set_cons_zero, List.set_cons_succ]
              refine wpAnyH_take (i := 23) (oi := ({ dst := some 33, op := Go.Op.load 37 (Go.Operand.tmp 32), type := 37, pos := "outright.go:23", after := #[{ on := 22, ground := Go.Ground.data }, { on := 17, ground := Go.Ground.guard }], guard := some (17, true) } : Oper)) (v := .agg (List.toArray (bs y.act))) rfl (by kernel_rfl) (by kernel_rfl) (by kernel_rfl) (fun _ _ _ h => h) (yieldsIf_load_mid (by rfl) _ _ rfl _ _ rfl (bs y.act) _ (fun w hSw => (rangeAt_act hSw.1.1)) Try.underlying37 rfl (hi37 y.la)) (by assumption) ?_
              try simp only [Act.put, List.setIfInBounds_toArray, List.set_cons_zero, List.set_cons_succ]
              refine wpAnyH_take (i := 24) (oi := ({ dst := some 34, op := Go.Op.move (Go.Operand.tmp 0), type := 22, pos := "outright.go:23", after := #[{ on := 17, ground := Go.Ground.guard }], guard := some (17, true) } : Oper)) (v := ?_) rfl (by kernel_rfl) (by kernel_rfl) (by kernel_rfl) (fun _ _ _ h => h) (Or.inl ⟨by rfl, ?_⟩) (by assumption) ?_
              rotate_left
              · (intro w hSw; (try dsimp only at hSw); go_simp; try with_reducible rfl)
              try simp only [Act.put, List.setIfInBounds_toArray, List.set_cons_zero, List.set_cons_succ]
              refine wpAnyH_take (i := 25) (oi := ({ dst := some 35, op := Go.Op.move (Go.Operand.tmp 3), type := 3, pos := "outright.go:23", after := #[{ on := 17, ground := Go.Ground.guard }], guard := some (17, true) } : Oper)) (v := ?_) rfl (by kernel_rfl) (by kernel_rfl) (by kernel_rfl) (fun _ _ _ h => h) (Or.inl ⟨by rfl, ?_⟩) (by assumption) ?_
              rotate_left
              · (intro w hSw; (try dsimp only at hSw); go_simp; try with_reducible rfl)
              try simp only [Act.put, List.setIfInBounds_toArray, List.set_cons_zero, List.set_cons_succ]
              refine wpAnyH_take (i := 26) (oi := ({ dst := some 36, op := Go.Op.indexAddr 22 (Go.Operand.tmp 34) (Go.Operand.tmp 35), type := 0, pos := "outright.go:23", after := #[{ on := 24, ground := Go.Ground.data }, { on := 25, ground := Go.Ground.data }, { on := 17, ground := Go.Ground.guard }], guard := some (17, true) } : Oper)) (v := ?_) rfl (by kernel_rfl) (by kernel_rfl) (by kernel_rfl) (fun _ _ _ h => h) (Or.inl ⟨by rfl, ?_⟩) (by assumption) ?_
              rotate_left
              · (intro w hSw; (try dsimp only at hSw); go_simp; try with_reducible rfl)
              try simp only [Act.put, List.setIfInBounds_toArray, List.set_cons_zero, List.set_cons_succ]
              refine wpAnyH_take (i := 27) (oi := ({ dst := some 37, op := Go.Op.fieldAddr 39 (Go.Operand.tmp 36) 0, type := 0, pos := "outright.go:23", after := #[{ on := 26, ground := Go.Ground.data }, { on := 17, ground := Go.Ground.guard }], guard := some (17, true) } : Oper)) (v := ?_) rfl (by kernel_rfl) (by kernel_rfl) (by kernel_rfl) (fun _ _ _ h => h) (Or.inl ⟨by rfl, ?_⟩) (by assumption) ?_
              rotate_left
              · (intro w hSw; (try dsimp only at hSw); go_simp; try with_reducible rfl)
              try simp only [Act.put, List.setIfInBounds_toArray, List.set_cons_zero, List.set_cons_succ]
              refine wpAnyH_take (i := 28) (oi := ({ dst := some 38, op := Go.Op.load 37 (Go.Operand.tmp 37), type := 37, pos := "outright.go:23", after := #[{ on := 27, ground := Go.Ground.data }, { on := 17, ground := Go.Ground.guard }], guard := some (17, true) } : Oper)) (v := .agg (List.toArray (bs x.act))) rfl (by kernel_rfl) (by kernel_rfl) (by kernel_rfl) (fun _ _ _ h => h) (yieldsIf_load_mid (by rfl) _ _ rfl _ _ rfl (bs x.act) _ (fun w hSw => (rangeAt_act hSw.1.2)) Try.underlying37 rfl (hi37 x.la)) (by assumption) ?_
              try simp only [Act.put, List.setIfInBounds_toArray, List.set_cons_zero, List.set_cons_succ]
              refine wpAnyH_ready (rs := [29]) (by kernel_rfl) (by simp) ?_
              refine (AllReadyH.cons (o := ({ dst := some 39, op := Go.Op.call { callee := Go.Callee.value (Go.Operand.func 49), args := #[Go.Operand.tmp 33, Go.Operand.tmp 38], argTypes := #[37, 37] }, type := 4, pos := "outright.go:23", after := #[{ on := 23, ground := Go.Ground.data }, { on := 28, ground := Go.Ground.data }, { on := 17, ground := Go.Ground.chain }, { on := 17, ground := Go.Ground.guard }], guard := some (17, true) } : Oper)) rfl (fun K hK => ?_) AllReadyH.nil)
              go_simp
              (refine (ORD.out _).mono ?_; rintro e w' ⟨rfl, hk⟩)
              go_wp2_with fail
              refine hK.out _ _ ?_ (fun hHeld1 => ?_)
              · (try dsimp only); first | exact Vs3.step hS ((Keep.refl [] _).drew) | exact Vs3.step (by assumption) hk
              clear hK K
              try simp only [Act.put, List.setIfInBounds_toArray, List.set_cons_zero, List.set_cons_succ]
              refine wpAnyH_take (i := 30) (oi := ({ dst := some 40, op := Go.Op.unOp Go.UnOp.not 4 (Go.Operand.tmp 39), type := 4, pos := "outright.go:23", after := #[{ on := 29, ground := Go.Ground.data }, { on := 17, ground := Go.Ground.guard }], guard := some (17, true) } : Oper)) (v := ?_) rfl (by kernel_rfl) (by kernel_rfl) (by kernel_rfl) (fun _ _ _ h => h) (Or.inl ⟨by rfl, ?_⟩) (by assumption) ?_
              rotate_left
              · (intro w hSw; (try dsimp only at hSw); go_simp; try with_reducible rfl)
              try simp only [Act.put, List.setIfInBounds_toArray, List.set_cons_zero, List.set_cons_succ]
              refine wpAnyH_take (i := 31) (oi := ({ dst := some 41, op := Go.Op.pick (Go.Operand.tmp 27) (Go.Operand.tmp 40) (Go.Operand.const (Go.Value.bool false)), type := 4, pos := "outright.go:23", after := #[{ on := 17, ground := Go.Ground.data }, { on := 30, ground := Go.Ground.data }, { on := 14, ground := Go.Ground.guard }], guard := some (14, false) } : Oper)) (v := ?_) rfl (by kernel_rfl) (by kernel_rfl) (by kernel_rfl) (fun _ _ _ h => h) (Or.inl ⟨by rfl, ?_⟩) (by assumption) ?_
              rotate_left
              · (intro w hSw; (try dsimp only at hSw); go_simp; try with_reducible rfl)
              try simp only [Act.put, List.setIfInBounds_toArray, List.set_cons_zero, List.set_cons_succ]
              refine wpAnyH_take (i := 32) (oi := ({ dst := some 42, op := Go.Op.pick (Go.Operand.tmp 24) (Go.Operand.const (Go.Value.bool true)) (Go.Operand.tmp 41), type := 4, pos := "outright.go:23", after := #[{ on := 14, ground := Go.Ground.data }, { on := 31, ground := Go.Ground.data }], guard := none } : Oper)) (v := ?_) rfl (by kernel_rfl) (by kernel_rfl) (by kernel_rfl) (fun _ _ _ h => h) (Or.inl ⟨by rfl, ?_⟩) (by assumption) ?_
              rotate_left
              · (intro w hSw; (try dsimp only at hSw); go_simp; try with_reducible rfl)
              try simp only [Act.put, List.setIfInBounds_toArray, List.set_cons_zero, List.set_cons_succ]
              refine wpAnyH_done (by kernel_rfl) ?_ _
              refine NoPanic.normal ?_
              go_wp2_with fail; (try clear j5); exact ⟨⟨j + 1 + 1, by have := HLT.out; omega, by go_num, Lib.hid (by rw [okTo_succ, HO.out, step_next HEX.out HEY.out, HF.out, HLX.out]; rfl), kk.trans' ((by assumption : Vs3 wr b (off + j * N) y (off + (j + 1) * N) x z _).2.2)⟩, by have := HLT.out; simp [intOf]; omega⟩
    · obtain rfl : i = n := by omega
      have HO2 := Lib.hid (valid_end (l := l) (by rw [HL.out]; exact HO.out))
      by_cases h32 : i ≤ 32
      · have h33 : (i : Int) ≤ 32 := by omega
        go_wp2_with fail
        go_returns
        exact ⟨by rw [HO2.out, HL.out, decide_eq_true h32]; rfl, kk⟩
      · have h33 : ¬ (i : Int) ≤ 32 := by omega
        go_wp2_with fail
        go_returns
        exact ⟨by rw [HO2.out, HL.out, decide_eq_false h32]; rfl, kk⟩
end Go.Proofs.Ytjdkeabimcajlaa

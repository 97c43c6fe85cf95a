/- Valid of the document; below, fits of the law. -/
import Derived.Test.YtjdkeabimcajlaaVa
set_option linter.unusedVariables false
set_option linter.unusedSimpArgs false
namespace Go.Proofs.Ytjdkeabimcajlaa
open Go.RowKit

theorem valid_end {l : List Res} (h : okTo l l.length = true) : validR l = decide (l.length ≤ 32) := by simp [validR, h]
theorem valid_no {l : List Res} (h : okTo l l.length = false) : validR l = false := by simp [validR, h]
theorem fit_yes {x : Res} {z : Int} (hz : x.code = z) (h0 : 0 ≤ z) (h1 : z ≤ 255) : fitR x = true := by subst hz; exact decide_eq_true ⟨h0, h1⟩
theorem fit_no {x : Res} {z : Int} (hz : x.code = z) (h : z < 0 ∨ 255 < z) : fitR x = false := by subst hz; exact decide_eq_false (by omega)

set_option maxHeartbeats 8000000 in
set_option maxRecDepth 100000 in
theorem refValid_any (a : Option Addr) (n c : Nat) (l : List Res) (w : World) (hx : RsIn w a n c l) :
    Calls Try.prog 18 #[.slice a n c] w fun e w' => e = .returned (.bool (validR l)) ∧ Keep [] w w' := by
  have hl := hx.hlen
  have HL := Lib.hid hl
  by_cases h32 : n ≤ 32
  · have HV := Lib.hid (valid_long (show l.length ≤ 32 by omega))
    rw [hl] at HV
    clear hl
    obtain ⟨N, hN, hso⟩ := size39
    have HN := Lib.hid hN
    clear hN
    go_enter Try.func18, Try.ntmps18
    go_upto_region 4 with fail
    go_loopw [3] (fun v3 wr => ∃ i, i ≤ n ∧ v3 = .int .i64 (i : Nat) ∧ Hid (okTo l i = true) ∧ Keep [] w wr) (fun v3 _ => n - (intOf v3).toNat)
    case atStart => exact ⟨0, by omega, rfl, Lib.hid (okTo_zero l), Keep.refl _ _⟩
    case round =>
      obtain ⟨i, hi, rfl, HO, kk⟩ := hrel
      by_cases hlt : i < n
      · obtain ⟨x, b, off, ex, rfl, rx⟩ := (hx.keep kk (by simp)).at hlt
        rw [HN.out] at rx
        have i0 : (0 : Int) ≤ i := by omega
        have i1 : (i : Int) < n := by omega
        have HEX := Lib.hid ex
        have cx := rangeAt_code rx
        obtain ⟨z, hz⟩ : ∃ z, x.code = z := ⟨_, rfl⟩
        rw [hz] at cx
        have HZ := Lib.hid hz
        have HLT := Lib.hid hlt
        have hx4 := hx.keep kk (by simp)
        clear ex hz
        by_cases h0 : z < 0
        · have HF := Lib.hid (fit_no HZ.out (Or.inl h0))
          clear hlt rx hx4
          go_wp2_with fail
          go_returns
          exact ⟨by rw [HV.out, okTo_no (step_unfit HEX.out HF.out) HLT.out]; rfl, kk⟩
        · by_cases h1 : 255 < z
          · have HF := Lib.hid (fit_no HZ.out (Or.inr h1))
            clear hlt rx hx4
            go_wp2_with fail
            go_returns
            exact ⟨by rw [HV.out, okTo_no (step_unfit HEX.out HF.out) HLT.out]; rfl, kk⟩
          · have HF := Lib.hid (fit_yes HZ.out (by omega) (by omega))
            go_upto_region 8 with fail
            clear cx h0 h1
            cases i with
            | zero =>
              have hS : (Keep [] wr wr) := Keep.refl _ _
              have e0 : ((0 : Nat) : Int) = 0 := rfl
              simp only [e0]
              clear hlt rx hx4
              refine wp_region_noPanic ?_
              refine wp_region_held_drew (S := fun w' => Keep [] wr w') (by kernel_rfl) ?_ (fun hHeld0 => ?_)
              · (try dsimp only); first | exact (Keep.refl [] _).drew | exact Keep.trans' (by assumption) hk
              refine wpAnyH_take (i := 0) (oi := ({ dst := some 27, op := Go.Op.move (Go.Operand.tmp 3), type := 3, pos := "freightref8.go:40", after := #[], guard := none } : Oper)) (v := ?_) rfl (by kernel_rfl) (by kernel_rfl) (by kernel_rfl) (fun _ _ _ h => h) (Or.inl ⟨by rfl, ?_⟩) (by assumption) ?_
              rotate_left
              · (intro w hSw; (try dsimp only at hSw); go_simp; try with_reducible rfl)
              try simp only [Act.put, List.setIfInBounds_toArray, List.set_cons_zero, List.set_cons_succ]
              refine wpAnyH_take (i := 1) (oi := ({ dst := some 28, op := Go.Op.binOp Go.BinOp.gtr 3 (Go.Operand.tmp 27) (Go.Operand.const (Go.Value.int Go.IntKind.i64 0)) 3, type := 4, pos := "freightref8.go:40", after := #[{ on := 0, ground := Go.Ground.data }], guard := none } : Oper)) (v := ?_) rfl (by kernel_rfl) (by kernel_rfl) (by kernel_rfl) (fun _ _ _ h => h) (Or.inl ⟨by rfl, ?_⟩) (by assumption) ?_
              rotate_left
              · (intro w hSw; (try dsimp only at hSw); go_simp; try with_reducible rfl)
              try simp only [Act.put, List.setIfInBounds_toArray, List.set_cons_zero, List.set_cons_succ]
              refine wpAnyH_take (i := 2) (oi := ({ dst := some 29, op := Go.Op.move (Go.Operand.tmp 28), type := 4, pos := "freightref8.go:40", after := #[{ on := 1, ground := Go.Ground.data }], guard := none } : Oper)) (v := ?_) rfl (by kernel_rfl) (by kernel_rfl) (by kernel_rfl) (fun _ _ _ h => h) (Or.inl ⟨by rfl, ?_⟩) (by assumption) ?_
              rotate_left
              · (intro w hSw; (try dsimp only at hSw); go_simp; try with_reducible rfl)
              try simp only [Act.put, List.setIfInBounds_toArray, List.set_cons_zero, List.set_cons_succ]
              refine wpAnyH_take (i := 3) (oi := ({ dst := some 30, op := Go.Op.move (Go.Operand.tmp 0), type := 22, pos := "freightref8.go:40", after := #[{ on := 2, ground := Go.Ground.guard }], guard := some (2, true) } : Oper)) (v := undef) rfl (by kernel_rfl) (by kernel_rfl) (by kernel_rfl) (fun _ _ _ h => h) (Or.inr ⟨by rfl, rfl⟩) (by assumption) ?_
              try simp only [Act.put, List.setIfInBounds_toArray, List.set_cons_zero, List.set_cons_succ]
              refine wpAnyH_take (i := 4) (oi := ({ dst := some 31, op := Go.Op.move (Go.Operand.tmp 3), type := 3, pos := "freightref8.go:40", after := #[{ on := 2, ground := Go.Ground.guard }], guard := some (2, true) } : Oper)) (v := undef) rfl (by kernel_rfl) (by kernel_rfl) (by kernel_rfl) (fun _ _ _ h => h) (Or.inr ⟨by rfl, rfl⟩) (by assumption) ?_
              try simp only [Act.put, List.setIfInBounds_toArray, List.set_cons_zero, List.set_cons_succ]
              refine wpAnyH_take (i := 5) (oi := ({ dst := some 32, op := Go.Op.binOp Go.BinOp.sub 3 (Go.Operand.tmp 31) (Go.Operand.const (Go.Value.int Go.IntKind.i64 1)) 3, type := 3, pos := "freightref8.go:40", after := #[{ on := 4, ground := Go.Ground.data }, { on := 2, ground := Go.Ground.guard }], guard := some (2, true) } : Oper)) (v := undef) rfl (by kernel_rfl) (by kernel_rfl) (by kernel_rfl) (fun _ _ _ h => h) (Or.inr ⟨by rfl, rfl⟩) (by assumption) ?_
              try simp only [Act.put, List.setIfInBounds_toArray, List.set_cons_zero, List.set_cons_succ]
              refine wpAnyH_take (i := 6) (oi := ({ dst := some 33, op := Go.Op.indexAddr 22 (Go.Operand.tmp 30) (Go.Operand.tmp 32), type := 0, pos := "freightref8.go:40", after := #[{ on := 3, ground := Go.Ground.data }, { on := 5, ground := Go.Ground.data }, { on := 2, ground := Go.Ground.guard }], guard := some (2, true) } : Oper)) (v := undef) rfl (by kernel_rfl) (by kernel_rfl) (by kernel_rfl) (fun _ _ _ h => h) (Or.inr ⟨by rfl, rfl⟩) (by assumption) ?_
              try simp only [Act.put, List.setIfInBounds_toArray, List.set_cons_zero, List.set_cons_succ]
              refine wpAnyH_take (i := 7) (oi := ({ dst := some 34, op := Go.Op.fieldAddr 39 (Go.Operand.tmp 33) 0, type := 0, pos := "freightref8.go:40", after := #[{ on := 6, ground := Go.Ground.data }, { on := 2, ground := Go.Ground.guard }], guard := some (2, true) } : Oper)) (v := undef) rfl (by kernel_rfl) (by kernel_rfl) (by kernel_rfl) (fun _ _ _ h => h) (Or.inr ⟨by rfl, rfl⟩) (by assumption) ?_
              try simp only [Act.put, List.setIfInBounds_toArray, List.set_cons_zero, List.set_cons_succ]
              refine wpAnyH_take (i := 8) (oi := ({ dst := some 35, op := Go.Op.load 37 (Go.Operand.tmp 34), type := 37, pos := "freightref8.go:40", after := #[{ on := 7, ground := Go.Ground.data }, { on := 2, ground := Go.Ground.guard }], guard := some (2, true) } : Oper)) (v := undef) rfl (by kernel_rfl) (by kernel_rfl) (by kernel_rfl) (fun _ _ _ h => h) (Or.inr ⟨by rfl, rfl⟩) (by assumption) ?_
              try simp only [Act.put, List.setIfInBounds_toArray, List.set_cons_zero, List.set_cons_succ]
              refine wpAnyH_take (i := 9) (oi := ({ dst := some 36, op := Go.Op.move (Go.Operand.tmp 0), type := 22, pos := "freightref8.go:40", after := #[{ on := 2, ground := Go.Ground.guard }], guard := some (2, true) } : Oper)) (v := undef) rfl (by kernel_rfl) (by kernel_rfl) (by kernel_rfl) (fun _ _ _ h => h) (Or.inr ⟨by rfl, rfl⟩) (by assumption) ?_
              try simp only [Act.put, List.setIfInBounds_toArray, List.set_cons_zero, List.set_cons_succ]
              refine wpAnyH_take (i := 10) (oi := ({ dst := some 37, op := Go.Op.move (Go.Operand.tmp 3), type := 3, pos := "freightref8.go:40", after := #[{ on := 2, ground := Go.Ground.guard }], guard := some (2, true) } : Oper)) (v := undef) rfl (by kernel_rfl) (by kernel_rfl) (by kernel_rfl) (fun _ _ _ h => h) (Or.inr ⟨by rfl, rfl⟩) (by assumption) ?_
              try simp only [Act.put, List.setIfInBounds_toArray, List.set_cons_zero, List.set_cons_succ]
              refine wpAnyH_take (i := 11) (oi := ({ dst := some 38, op := Go.Op.indexAddr 22 (Go.Operand.tmp 36) (Go.Operand.tmp 37), type := 0, pos := "freightref8.go:40", after := #[{ on := 9, ground := Go.Ground.data }, { on := 10, ground := Go.Ground.data }, { on := 2, ground := Go.Ground.guard }], guard := some (2, true) } : Oper)) (v := undef) rfl (by kernel_rfl) (by kernel_rfl) (by kernel_rfl) (fun _ _ _ h => h) (Or.inr ⟨by rfl, rfl⟩) (by assumption) ?_
              try simp only [Act.put, List.setIfInBounds_toArray, List.set_cons_zero, List.set_cons_succ]
              refine wpAnyH_take (i := 12) (oi := ({ dst := some 39, op := Go.Op.fieldAddr 39 (Go.Operand.tmp 38) 0, type := 0, pos := "freightref8.go:40", after := #[{ on := 11, ground := Go.Ground.data }, { on := 2, ground := Go.Ground.guard }], guard := some (2, true) } : Oper)) (v := undef) rfl (by kernel_rfl) (by kernel_rfl) (by kernel_rfl) (fun _ _ _ h => h) (Or.inr ⟨by rfl, rfl⟩) (by assumption) ?_
              try simp only [Act.put, List.setIfInBounds_toArray, List.set_cons_zero, List.set_cons_succ]
              refine wpAnyH_take (i := 13) (oi := ({ dst := some 40, op := Go.Op.load 37 (Go.Operand.tmp 39), type := 37, pos := "freightref8.go:40", after := #[{ on := 12, ground := Go.Ground.data }, { on := 2, ground := Go.Ground.guard }], guard := some (2, true) } : Oper)) (v := undef) rfl (by kernel_rfl) (by kernel_rfl) (by kernel_rfl) (fun _ _ _ h => h) (Or.inr ⟨by rfl, rfl⟩) (by assumption) ?_
              try simp only [Act.put, List.setIfInBounds_toArray, List.set_cons_zero, List.set_cons_succ]
              refine wpAnyH_take (i := 14) (oi := ({ dst := some 41, op := Go.Op.call { callee := Go.Callee.value (Go.Operand.func 44), args := #[Go.Operand.tmp 35, Go.Operand.tmp 40], argTypes := #[37, 37] }, type := 3, pos := "freightref8.go:40", after := #[{ on := 8, ground := Go.Ground.data }, { on := 13, ground := Go.Ground.data }, { on := 2, ground := Go.Ground.chain }, { on := 2, ground := Go.Ground.guard }], guard := some (2, true) } : Oper)) (v := undef) rfl (by kernel_rfl) (by kernel_rfl) (by kernel_rfl) (fun _ _ _ h => h) (Or.inr ⟨by rfl, rfl⟩) (by assumption) ?_
              try simp only [Act.put, List.setIfInBounds_toArray, List.set_cons_zero, List.set_cons_succ]
              refine wpAnyH_take (i := 15) (oi := ({ dst := some 42, op := Go.Op.binOp Go.BinOp.geq 3 (Go.Operand.tmp 41) (Go.Operand.const (Go.Value.int Go.IntKind.i64 0)) 3, type := 4, pos := "freightref8.go:40", after := #[{ on := 14, ground := Go.Ground.data }, { on := 2, ground := Go.Ground.guard }], guard := some (2, true) } : Oper)) (v := undef) rfl (by kernel_rfl) (by kernel_rfl) (by kernel_rfl) (fun _ _ _ h => h) (Or.inr ⟨by rfl, rfl⟩) (by assumption) ?_
              try simp only [Act.put, List.setIfInBounds_toArray, List.set_cons_zero, List.set_cons_succ]
              refine wpAnyH_take (i := 16) (oi := ({ dst := some 43, op := Go.Op.pick (Go.Operand.tmp 29) (Go.Operand.tmp 42) (Go.Operand.const (Go.Value.bool false)), type := 4, pos := "freightref8.go:40", after := #[{ on := 2, ground := Go.Ground.data }, { on := 15, ground := Go.Ground.data }], guard := none } : Oper)) (v := ?_) rfl (by kernel_rfl) (by kernel_rfl) (by kernel_rfl) (fun _ _ _ h => h) (Or.inl ⟨by rfl, ?_⟩) (by assumption) ?_
              rotate_left
              · (intro w hSw; (try dsimp only at hSw); go_simp; try with_reducible rfl)
              try simp only [Act.put, List.setIfInBounds_toArray, List.set_cons_zero, List.set_cons_succ]
              refine wpAnyH_done (by kernel_rfl) ?_ _
              refine NoPanic.normal ?_
              go_wp2_with fail; (try clear j5); exact ⟨⟨1, by have := HLT.out; omega, by go_num, Lib.hid (by rw [okTo_succ, HO.out, step_first HEX.out, HF.out]; rfl), kk.trans' ((by assumption : Keep [] wr _))⟩, by have := HLT.out; simp [intOf]; omega⟩
            | succ j =>
              obtain ⟨y, b', off', ey, e', ry⟩ := hx4.at (show j < n by omega)
              obtain ⟨rfl, rfl⟩ : b = b' ∧ off = off' := by simpa using e'
              rw [HN.out] at ry
              have hS : S2 wr b (off + j * N) y b (off + (j + 1) * N) x wr := ⟨ry, rx, Keep.refl _ _⟩
              have HEY := Lib.hid ey
              have ord := fun W => order_any y.act x.act W y.la x.la
              have e1 : ((j + 1 : Nat) : Int) = (j : Int) + 1 := by omega
              simp only [e1]
              have j1 : (0 : Int) < (j : Int) + 1 := by omega
              have j2 : (j : Int) < n := by omega
              have j3 : (0 : Int) ≤ j := by omega
              have j4 : (j : Int) ≤ 32 := by omega
              have j6 : (j : Int) + 1 < n := by omega
              have j7 : (0 : Int) ≤ (j : Int) + 1 := by omega
              have j8 : ((j : Int) + 1).toNat = j + 1 := by omega
              have j5 : IntKind.i64.wrap (j : Int) = j := IntWalk.i64_in _ (by omega)
              clear hlt rx hx4 i0 i1 e1 e' ey ry
              cases hlx : ltR y x with
              | false =>
                obtain ⟨C, hC⟩ : ∃ C, Lib.compareBytes y.act x.act = C := ⟨_, rfl⟩
                rw [hC] at ord
                have ORD := Lib.hid ord
                have hcc : 0 ≤ C := by
                  have h := hlx
                  rw [ltR, hC] at h
                  simp only [decide_eq_false_iff_not, decide_eq_true_eq] at h
                  omega
                have HLX := Lib.hid hlx
                clear ord hlx hC
                refine wp_region_noPanic ?_
                refine wp_region_held_drew (S := S2 wr b (off + j * N) y b (off + (j + 1) * N) x) (by kernel_rfl) ?_ (fun hHeld0 => ?_)
                · (try dsimp only); first | exact S2.step hS ((Keep.refl [] _).drew) | exact S2.step (by assumption) hk
                refine wpAnyH_take (i := 0) (oi := ({ dst := some 27, op := Go.Op.move (Go.Operand.tmp 3), type := 3, pos := "freightref8.go:40", after := #[], guard := none } : Oper)) (v := ?_) rfl (by kernel_rfl) (by kernel_rfl) (by kernel_rfl) (fun _ _ _ h => h) (Or.inl ⟨by rfl, ?_⟩) (by assumption) ?_
                rotate_left
                · (intro w hSw; (try dsimp only at hSw); go_simp; try with_reducible rfl)
                try simp only [Act.put, List.setIfInBounds_toArray, List.set_cons_zero, List.set_cons_succ]
                refine wpAnyH_take (i := 1) (oi := ({ dst := some 28, op := Go.Op.binOp Go.BinOp.gtr 3 (Go.Operand.tmp 27) (Go.Operand.const (Go.Value.int Go.IntKind.i64 0)) 3, type := 4, pos := "freightref8.go:40", after := #[{ on := 0, ground := Go.Ground.data }], guard := none } : Oper)) (v := ?_) rfl (by kernel_rfl) (by kernel_rfl) (by kernel_rfl) (fun _ _ _ h => h) (Or.inl ⟨by rfl, ?_⟩) (by assumption) ?_
                rotate_left
                · (intro w hSw; (try dsimp only at hSw); go_simp; try with_reducible rfl)
                try simp only [Act.put, List.setIfInBounds_toArray, List.set_cons_zero, List.set_cons_succ]
                refine wpAnyH_take (i := 2) (oi := ({ dst := some 29, op := Go.Op.move (Go.Operand.tmp 28), type := 4, pos := "freightref8.go:40", after := #[{ on := 1, ground := Go.Ground.data }], guard := none } : Oper)) (v := ?_) rfl (by kernel_rfl) (by kernel_rfl) (by kernel_rfl) (fun _ _ _ h => h) (Or.inl ⟨by rfl, ?_⟩) (by assumption) ?_
                rotate_left
                · (intro w hSw; (try dsimp only at hSw); go_simp; try with_reducible rfl)
                try simp only [Act.put, List.setIfInBounds_toArray, List.set_cons_zero, List.set_cons_succ]
                refine wpAnyH_take (i := 3) (oi := ({ dst := some 30, op := Go.Op.move (Go.Operand.tmp 0), type := 22, pos := "freightref8.go:40", after := #[{ on := 2, ground := Go.Ground.guard }], guard := some (2, true) } : Oper)) (v := ?_) rfl (by kernel_rfl) (by kernel_rfl) (by kernel_rfl) (fun _ _ _ h => h) (Or.inl ⟨by rfl, ?_⟩) (by assumption) ?_
                rotate_left
                · (intro w hSw; (try dsimp only at hSw); go_simp; try with_reducible rfl)
                try simp only [Act.put, List.setIfInBounds_toArray, List.set_cons_zero, List.set_cons_succ]
                refine wpAnyH_take (i := 4) (oi := ({ dst := some 31, op := Go.Op.move (Go.Operand.tmp 3), type := 3, pos := "freightref8.go:40", after := #[{ on := 2, ground := Go.Ground.guard }], guard := some (2, true) } : Oper)) (v := ?_) rfl (by kernel_rfl) (by kernel_rfl) (by kernel_rfl) (fun _ _ _ h => h) (Or.inl ⟨by rfl, ?_⟩) (by assumption) ?_
                rotate_left
                · (intro w hSw; (try dsimp only at hSw); go_simp; try with_reducible rfl)
                try simp only [Act.put, List.setIfInBounds_toArray, List.set_cons_zero, List.set_cons_succ]
                refine wpAnyH_take (i := 5) (oi := ({ dst := some 32, op := Go.Op.binOp Go.BinOp.sub 3 (Go.Operand.tmp 31) (Go.Operand.const (Go.Value.int Go.IntKind.i64 1)) 3, type := 3, pos := "freightref8.go:40", after := #[{ on := 4, ground := Go.Ground.data }, { on := 2, ground := Go.Ground.guard }], guard := some (2, true) } : Oper)) (v := ?_) rfl (by kernel_rfl) (by kernel_rfl) (by kernel_rfl) (fun _ _ _ h => h) (Or.inl ⟨by rfl, ?_⟩) (by assumption) ?_
                rotate_left
                · (intro w hSw; (try dsimp only at hSw); go_simp; try with_reducible rfl)
                try simp only [Act.put, List.setIfInBounds_toArray, List.set_cons_zero, List.set_cons_succ]
                refine wpAnyH_take (i := 6) (oi := ({ dst := some 33, op := Go.Op.indexAddr 22 (Go.Operand.tmp 30) (Go.Operand.tmp 32), type := 0, pos := "freightref8.go:40", after := #[{ on := 3, ground := Go.Ground.data }, { on := 5, ground := Go.Ground.data }, { on := 2, ground := Go.Ground.guard }], guard := some (2, true) } : Oper)) (v := ?_) rfl (by kernel_rfl) (by kernel_rfl) (by kernel_rfl) (fun _ _ _ h => h) (Or.inl ⟨by rfl, ?_⟩) (by assumption) ?_
                rotate_left
                · (intro w hSw; (try dsimp only at hSw); go_simp; try with_reducible rfl)
                try simp only [Act.put, List.setIfInBounds_toArray, List.set_cons_zero, List.set_cons_succ]
                refine wpAnyH_take (i := 7) (oi := ({ dst := some 34, op := Go.Op.fieldAddr 39 (Go.Operand.tmp 33) 0, type := 0, pos := "freightref8.go:40", after := #[{ on := 6, ground := Go.Ground.data }, { on := 2, ground := Go.Ground.guard }], guard := some (2, true) } : Oper)) (v := ?_) rfl (by kernel_rfl) (by kernel_rfl) (by kernel_rfl) (fun _ _ _ h => h) (Or.inl ⟨by rfl, ?_⟩) (by assumption) ?_
                rotate_left
                · (intro w hSw; (try dsimp only at hSw); go_simp; try with_reducible rfl)
                try simp only [Act.put, List.setIfInBounds_toArray, List.set_cons_zero, List.set_cons_succ]
                refine wpAnyH_take (i := 8) (oi := ({ dst := some 35, op := Go.Op.load 37 (Go.Operand.tmp 34), type := 37, pos := "freightref8.go:40", after := #[{ on := 7, ground := Go.Ground.data }, { on := 2, ground := Go.Ground.guard }], guard := some (2, true) } : Oper)) (v := .agg (List.toArray (bs y.act))) rfl (by kernel_rfl) (by kernel_rfl) (by kernel_rfl) (fun _ _ _ h => h) (yieldsIf_load_mid (by rfl) _ _ rfl _ _ rfl (bs y.act) _ (fun w hSw => (rangeAt_act hSw.1)) Try.underlying37 rfl (hi37 y.la)) (by assumption) ?_
                try simp only [Act.put, List.setIfInBounds_toArray, List.set_cons_zero, List.set_cons_succ]
                refine wpAnyH_take (i := 9) (oi := ({ dst := some 36, op := Go.Op.move (Go.Operand.tmp 0), type := 22, pos := "freightref8.go:40", after := #[{ on := 2, ground := Go.Ground.guard }], guard := some (2, true) } : Oper)) (v := ?_) rfl (by kernel_rfl) (by kernel_rfl) (by kernel_rfl) (fun _ _ _ h => h) (Or.inl ⟨by rfl, ?_⟩) (by assumption) ?_
                rotate_left
                · (intro w hSw; (try dsimp only at hSw); go_simp; try with_reducible rfl)
                try simp only [Act.put, List.setIfInBounds_toArray, List.set_cons_zero, List.set_cons_succ]
                refine wpAnyH_take (i := 10) (oi := ({ dst := some 37, op := Go.Op.move (Go.Operand.tmp 3), type := 3, pos := "freightref8.go:40", after := #[{ on := 2, ground := Go.Ground.guard }], guard := some (2, true) } : Oper)) (v := ?_) rfl (by kernel_rfl) (by kernel_rfl) (by kernel_rfl) (fun _ _ _ h => h) (Or.inl ⟨by rfl, ?_⟩) (by assumption) ?_
                rotate_left
                · (intro w hSw; (try dsimp only at hSw); go_simp; try with_reducible rfl)
                try simp only [Act.put, List.setIfInBounds_toArray, List.set_cons_zero, List.set_cons_succ]
                refine wpAnyH_take (i := 11) (oi := ({ dst := some 38, op := Go.Op.indexAddr 22 (Go.Operand.tmp 36) (Go.Operand.tmp 37), type := 0, pos := "freightref8.go:40", after := #[{ on := 9, ground := Go.Ground.data }, { on := 10, ground := Go.Ground.data }, { on := 2, ground := Go.Ground.guard }], guard := some (2, true) } : Oper)) (v := ?_) rfl (by kernel_rfl) (by kernel_rfl) (by kernel_rfl) (fun _ _ _ h => h) (Or.inl ⟨by rfl, ?_⟩) (by assumption) ?_
                rotate_left
                · (intro w hSw; (try dsimp only at hSw); go_simp; try with_reducible rfl)
                try simp only [Act.put, List.setIfInBounds_toArray, List.set_cons_zero, List.set_cons_succ]
                refine wpAnyH_take (i := 12) (oi := ({ dst := some 39, op := Go.Op.fieldAddr 39 (Go.Operand.tmp 38) 0, type := 0, pos := "freightref8.go:40", after := #[{ on := 11, ground := Go.Ground.data }, { on := 2, ground := Go.Ground.guard }], guard := some (2, true) } : Oper)) (v := ?_) rfl (by kernel_rfl) (by kernel_rfl) (by kernel_rfl) (fun _ _ _ h => h) (Or.inl ⟨by rfl, ?_⟩) (by assumption) ?_
                rotate_left
                · (intro w hSw; (try dsimp only at hSw); go_simp; try with_reducible rfl)
                try simp only [Act.put, List.setIfInBounds_toArray, List.set_cons_zero, List.set_cons_succ]
                refine wpAnyH_take (i := 13) (oi := ({ dst := some 40, op := Go.Op.load 37 (Go.Operand.tmp 39), type := 37, pos := "freightref8.go:40", after := #[{ on := 12, ground := Go.Ground.data }, { on := 2, ground := Go.Ground.guard }], guard := some (2, true) } : Oper)) (v := .agg (List.toArray (bs x.act))) rfl (by kernel_rfl) (by kernel_rfl) (by kernel_rfl) (fun _ _ _ h => h) (yieldsIf_load_mid (by rfl) _ _ rfl _ _ rfl (bs x.act) _ (fun w hSw => (rangeAt_act hSw.2.1)) Try.underlying37 rfl (hi37 x.la)) (by assumption) ?_
                try simp only [Act.put, List.setIfInBounds_toArray, List.set_cons_zero, List.set_cons_succ]
                refine wpAnyH_ready (rs := [14]) (by kernel_rfl) (by simp) ?_
                refine (AllReadyH.cons (o := ({ dst := some 41, op := Go.Op.call { callee := Go.Callee.value (Go.Operand.func 44), args := #[Go.Operand.tmp 35, Go.Operand.tmp 40], argTypes := #[37, 37] }, type := 3, pos := "freightref8.go:40", after := #[{ on := 8, ground := Go.Ground.data }, { on := 13, ground := Go.Ground.data }, { on := 2, ground := Go.Ground.chain }, { on := 2, ground := Go.Ground.guard }], guard := some (2, true) } : Oper)) rfl (fun K hK => ?_) AllReadyH.nil)
                go_simp
                (refine (ORD.out _).mono ?_; rintro e w' ⟨rfl, hk⟩)
                go_wp2_with fail
                refine hK.out _ _ ?_ (fun hHeld1 => ?_)
                · (try dsimp only); first | exact S2.step hS ((Keep.refl [] _).drew) | exact S2.step (by assumption) hk
                clear hK K
                try simp only [Act.put, List.setIfInBounds_toArray, List.set_cons_zero, List.set_cons_succ]
                refine wpAnyH_take (i := 15) (oi := ({ dst := some 42, op := Go.Op.binOp Go.BinOp.geq 3 (Go.Operand.tmp 41) (Go.Operand.const (Go.Value.int Go.IntKind.i64 0)) 3, type := 4, pos := "freightref8.go:40", after := #[{ on := 14, ground := Go.Ground.data }, { on := 2, ground := Go.Ground.guard }], guard := some (2, true) } : Oper)) (v := ?_) rfl (by kernel_rfl) (by kernel_rfl) (by kernel_rfl) (fun _ _ _ h => h) (Or.inl ⟨by rfl, ?_⟩) (by assumption) ?_
                rotate_left
                · (intro w hSw; (try dsimp only at hSw); go_simp; try with_reducible rfl)
                try simp only [Act.put, List.setIfInBounds_toArray, List.set_cons_zero, List.set_cons_succ]
                refine wpAnyH_take (i := 16) (oi := ({ dst := some 43, op := Go.Op.pick (Go.Operand.tmp 29) (Go.Operand.tmp 42) (Go.Operand.const (Go.Value.bool false)), type := 4, pos := "freightref8.go:40", after := #[{ on := 2, ground := Go.Ground.data }, { on := 15, ground := Go.Ground.data }], guard := none } : Oper)) (v := ?_) rfl (by kernel_rfl) (by kernel_rfl) (by kernel_rfl) (fun _ _ _ h => h) (Or.inl ⟨by rfl, ?_⟩) (by assumption) ?_
                rotate_left
                · (intro w hSw; (try dsimp only at hSw); go_simp; try with_reducible rfl)
                try simp only [Act.put, List.setIfInBounds_toArray, List.set_cons_zero, List.set_cons_succ]
                refine wpAnyH_done (by kernel_rfl) ?_ _
                refine NoPanic.normal ?_
                go_wp2_with fail; go_returns; exact ⟨by rw [HV.out, okTo_no (by rw [step_next HEX.out HEY.out, HF.out, HLX.out]; rfl) HLT.out]; rfl, kk.trans' ((by assumption : S2 wr b (off + j * N) y b (off + (j + 1) * N) x _).2.2)⟩
              | true =>
                obtain ⟨C, hC⟩ : ∃ C, Lib.compareBytes y.act x.act = C := ⟨_, rfl⟩
                rw [hC] at ord
                have ORD := Lib.hid ord
                have hcc : ¬ 0 ≤ C := by
                  have h := hlx
                  rw [ltR, hC] at h
                  simp only [decide_eq_false_iff_not, decide_eq_true_eq] at h
                  omega
                have HLX := Lib.hid hlx
                clear ord hlx hC
                refine wp_region_noPanic ?_
                refine wp_region_held_drew (S := S2 wr b (off + j * N) y b (off + (j + 1) * N) x) (by kernel_rfl) ?_ (fun hHeld0 => ?_)
                · (try dsimp only); first | exact S2.step hS ((Keep.refl [] _).drew) | exact S2.step (by assumption) hk
                refine wpAnyH_take (i := 0) (oi := ({ dst := some 27, op := Go.Op.move (Go.Operand.tmp 3), type := 3, pos := "freightref8.go:40", after := #[], guard := none } : Oper)) (v := ?_) rfl (by kernel_rfl) (by kernel_rfl) (by kernel_rfl) (fun _ _ _ h => h) (Or.inl ⟨by rfl, ?_⟩) (by assumption) ?_
                rotate_left
                · (intro w hSw; (try dsimp only at hSw); go_simp; try with_reducible rfl)
                try simp only [Act.put, List.setIfInBounds_toArray, List.set_cons_zero, List.set_cons_succ]
                refine wpAnyH_take (i := 1) (oi := ({ dst := some 28, op := Go.Op.binOp Go.BinOp.gtr 3 (Go.Operand.tmp 27) (Go.Operand.const (Go.Value.int Go.IntKind.i64 0)) 3, type := 4, pos := "freightref8.go:40", after := #[{ on := 0, ground := Go.Ground.data }], guard := none } : Oper)) (v := ?_) rfl (by kernel_rfl) (by kernel_rfl) (by kernel_rfl) (fun _ _ _ h => h) (Or.inl ⟨by rfl, ?_⟩) (by assumption) ?_
                rotate_left
                · (intro w hSw; (try dsimp only at hSw); go_simp; try with_reducible rfl)
                try simp only [Act.put, List.setIfInBounds_toArray, List.set_cons_zero, List.set_cons_succ]
                refine wpAnyH_take (i := 2) (oi := ({ dst := some 29, op := Go.Op.move (Go.Operand.tmp 28), type := 4, pos := "freightref8.go:40", after := #[{ on := 1, ground := Go.Ground.data }], guard := none } : Oper)) (v := ?_) rfl (by kernel_rfl) (by kernel_rfl) (by kernel_rfl) (fun _ _ _ h => h) (Or.inl ⟨by rfl, ?_⟩) (by assumption) ?_
                rotate_left
                · (intro w hSw; (try dsimp only at hSw); go_simp; try with_reducible rfl)
                try simp only [Act.put, List.setIfInBounds_toArray, List.set_cons_zero, List.set_cons_succ]
                refine wpAnyH_take (i := 3) (oi := ({ dst := some 30, op := Go.Op.move (Go.Operand.tmp 0), type := 22, pos := "freightref8.go:40", after := #[{ on := 2, ground := Go.Ground.guard }], guard := some (2, true) } : Oper)) (v := ?_) rfl (by kernel_rfl) (by kernel_rfl) (by kernel_rfl) (fun _ _ _ h => h) (Or.inl ⟨by rfl, ?_⟩) (by assumption) ?_
                rotate_left
                · (intro w hSw; (try dsimp only at hSw); go_simp; try with_reducible rfl)
                try simp only [Act.put, List.setIfInBounds_toArray, List.set_cons_zero, List.set_cons_succ]
                refine wpAnyH_take (i := 4) (oi := ({ dst := some 31, op := Go.Op.move (Go.Operand.tmp 3), type := 3, pos := "freightref8.go:40", after := #[{ on := 2, ground := Go.Ground.guard }], guard := some (2, true) } : Oper)) (v := ?_) rfl (by kernel_rfl) (by kernel_rfl) (by kernel_rfl) (fun _ _ _ h => h) (Or.inl ⟨by rfl, ?_⟩) (by assumption) ?_
                rotate_left
                · (intro w hSw; (try dsimp only at hSw); go_simp; try with_reducible rfl)
                try simp only [Act.put, List.setIfInBounds_toArray, List.set_cons_zero, List.set_cons_succ]
                refine wpAnyH_take (i := 5) (oi := ({ dst := some 32, op := Go.Op.binOp Go.BinOp.sub 3 (Go.Operand.tmp 31) (Go.Operand.const (Go.Value.int Go.IntKind.i64 1)) 3, type := 3, pos := "freightref8.go:40", after := #[{ on := 4, ground := Go.Ground.data }, { on := 2, ground := Go.Ground.guard }], guard := some (2, true) } : Oper)) (v := ?_) rfl (by kernel_rfl) (by kernel_rfl) (by kernel_rfl) (fun _ _ _ h => h) (Or.inl ⟨by rfl, ?_⟩) (by assumption) ?_
                rotate_left
                · (intro w hSw; (try dsimp only at hSw); go_simp; try with_reducible rfl)
                try simp only [Act.put, List.setIfInBounds_toArray, List.set_cons_zero, List.set_cons_succ]
                refine wpAnyH_take (i := 6) (oi := ({ dst := some 33, op := Go.Op.indexAddr 22 (Go.Operand.tmp 30) (Go.Operand.tmp 32), type := 0, pos := "freightref8.go:40", after := #[{ on := 3, ground := Go.Ground.data }, { on := 5, ground := Go.Ground.data }, { on := 2, ground := Go.Ground.guard }], guard := some (2, true) } : Oper)) (v := ?_) rfl (by kernel_rfl) (by kernel_rfl) (by kernel_rfl) (fun _ _ _ h => h) (Or.inl ⟨by rfl, ?_⟩) (by assumption) ?_
                rotate_left
                · (intro w hSw; (try dsimp only at hSw); go_simp; try with_reducible rfl)
                try simp only [Act.put, List.setIfInBounds_toArray, List.set_cons_zero, List.set_cons_succ]
                refine wpAnyH_take (i := 7) (oi := ({ dst := some 34, op := Go.Op.fieldAddr 39 (Go.Operand.tmp 33) 0, type := 0, pos := "freightref8.go:40", after := #[{ on := 6, ground := Go.Ground.data }, { on := 2, ground := Go.Ground.guard }], guard := some (2, true) } : Oper)) (v := ?_) rfl (by kernel_rfl) (by kernel_rfl) (by kernel_rfl) (fun _ _ _ h => h) (Or.inl ⟨by rfl, ?_⟩) (by assumption) ?_
                rotate_left
                · (intro w hSw; (try dsimp only at hSw); go_simp; try with_reducible rfl)
                try simp only [Act.put, List.setIfInBounds_toArray, List.set_cons_zero, List.set_cons_succ]
                refine wpAnyH_take (i := 8) (oi := ({ dst := some 35, op := Go.Op.load 37 (Go.Operand.tmp 34), type := 37, pos := "freightref8.go:40", after := #[{ on := 7, ground := Go.Ground.data }, { on := 2, ground := Go.Ground.guard }], guard := some (2, true) } : Oper)) (v := .agg (List.toArray (bs y.act))) rfl (by kernel_rfl) (by kernel_rfl) (by kernel_rfl) (fun _ _ _ h => h) (yieldsIf_load_mid (by rfl) _ _ rfl _ _ rfl (bs y.act) _ (fun w hSw => (rangeAt_act hSw.1)) Try.underlying37 rfl (hi37 y.la)) (by assumption) ?_
                try simp only [Act.put, List.setIfInBounds_toArray, List.set_cons_zero, List.set_cons_succ]
                refine wpAnyH_take (i := 9) (oi := ({ dst := some 36, op := Go.Op.move (Go.Operand.tmp 0), type := 22, pos := "freightref8.go:40", after := #[{ on := 2, ground := Go.Ground.guard }], guard := some (2, true) } : Oper)) (v := ?_) rfl (by kernel_rfl) (by kernel_rfl) (by kernel_rfl) (fun _ _ _ h => h) (Or.inl ⟨by rfl, ?_⟩) (by assumption) ?_
                rotate_left
                · (intro w hSw; (try dsimp only at hSw); go_simp; try with_reducible rfl)
                try simp only [Act.put, List.setIfInBounds_toArray, List.set_cons_zero, List.set_cons_succ]
                refine wpAnyH_take (i := 10) (oi := ({ dst := some 37, op := Go.Op.move (Go.Operand.tmp 3), type := 3, pos := "freightref8.go:40", after := #[{ on := 2, ground := Go.Ground.guard }], guard := some (2, true) } : Oper)) (v := ?_) rfl (by kernel_rfl) (by kernel_rfl) (by kernel_rfl) (fun _ _ _ h => h) (Or.inl ⟨by rfl, ?_⟩) (by assumption) ?_
                rotate_left
                · (intro w hSw; (try dsimp only at hSw); go_simp; try with_reducible rfl)
                try simp only [Act.put, List.setIfInBounds_toArray, List.set_cons_zero, List.set_cons_succ]
                refine wpAnyH_take (i := 11) (oi := ({ dst := some 38, op := Go.Op.indexAddr 22 (Go.Operand.tmp 36) (Go.Operand.tmp 37), type := 0, pos := "freightref8.go:40", after := #[{ on := 9, ground := Go.Ground.data }, { on := 10, ground := Go.Ground.data }, { on := 2, ground := Go.Ground.guard }], guard := some (2, true) } : Oper)) (v := ?_) rfl (by kernel_rfl) (by kernel_rfl) (by kernel_rfl) (fun _ _ _ h => h) (Or.inl ⟨by rfl, ?_⟩) (by assumption) ?_
                rotate_left
                · (intro w hSw; (try dsimp only at hSw); go_simp; try with_reducible rfl)
                try simp only [Act.put, List.setIfInBounds_toArray, List.set_cons_zero, List.set_cons_succ]
                refine wpAnyH_take (i := 12) (oi := ({ dst := some 39, op := Go.Op.fieldAddr 39 (Go.Operand.tmp 38) 0, type := 0, pos := "freightref8.go:40", after := #[{ on := 11, ground := Go.Ground.data }, { on := 2, ground := Go.Ground.guard }], guard := some (2, true) } : Oper)) (v := ?_) rfl (by kernel_rfl) (by kernel_rfl) (by kernel_rfl) (fun _ _ _ h => h) (Or.inl ⟨by rfl, ?_⟩) (by assumption) ?_
                rotate_left
                · (intro w hSw; (try dsimp only at hSw); go_simp; try with_reducible rfl)
                try simp only [Act.put, List.setIfInBounds_toArray, List.set_cons_zero, List.set_cons_succ]
                refine wpAnyH_take (i := 13) (oi := ({ dst := some 40, op := Go.Op.load 37 (Go.Operand.tmp 39), type := 37, pos := "freightref8.go:40", after := #[{ on := 12, ground := Go.Ground.data }, { on := 2, ground := Go.Ground.guard }], guard := some (2, true) } : Oper)) (v := .agg (List.toArray (bs x.act))) rfl (by kernel_rfl) (by kernel_rfl) (by kernel_rfl) (fun _ _ _ h => h) (yieldsIf_load_mid (by rfl) _ _ rfl _ _ rfl (bs x.act) _ (fun w hSw => (rangeAt_act hSw.2.1)) Try.underlying37 rfl (hi37 x.la)) (by assumption) ?_
                try simp only [Act.put, List.setIfInBounds_toArray, List.set_cons_zero, List.set_cons_succ]
                refine wpAnyH_ready (rs := [14]) (by kernel_rfl) (by simp) ?_
                refine (AllReadyH.cons (o := ({ dst := some 41, op := Go.Op.call { callee := Go.Callee.value (Go.Operand.func 44), args := #[Go.Operand.tmp 35, Go.Operand.tmp 40], argTypes := #[37, 37] }, type := 3, pos := "freightref8.go:40", after := #[{ on := 8, ground := Go.Ground.data }, { on := 13, ground := Go.Ground.data }, { on := 2, ground := Go.Ground.chain }, { on := 2, ground := Go.Ground.guard }], guard := some (2, true) } : Oper)) rfl (fun K hK => ?_) AllReadyH.nil)
                go_simp
                (refine (ORD.out _).mono ?_; rintro e w' ⟨rfl, hk⟩)
                go_wp2_with fail
                refine hK.out _ _ ?_ (fun hHeld1 => ?_)
                · (try dsimp only); first | exact S2.step hS ((Keep.refl [] _).drew) | exact S2.step (by assumption) hk
                clear hK K
                try simp only [Act.put, List.setIfInBounds_toArray, List.set_cons_zero, List.set_cons_succ]
                refine wpAnyH_take (i := 15) (oi := ({ dst := some 42, op := Go.Op.binOp Go.BinOp.geq 3 (Go.Operand.tmp 41) (Go.Operand.const (Go.Value.int Go.IntKind.i64 0)) 3, type := 4, pos := "freightref8.go:40", after := #[{ on := 14, ground := Go.Ground.data }, { on := 2, ground := Go.Ground.guard }], guard := some (2, true) } : Oper)) (v := ?_) rfl (by kernel_rfl) (by kernel_rfl) (by kernel_rfl) (fun _ _ _ h => h) (Or.inl ⟨by rfl, ?_⟩) (by assumption) ?_
                rotate_left
                · (intro w hSw; (try dsimp only at hSw); go_simp; try with_reducible rfl)
                try simp only [Act.put, List.setIfInBounds_toArray, List.set_cons_zero, List.set_cons_succ]
                refine wpAnyH_take (i := 16) (oi := ({ dst := some 43, op := Go.Op.pick (Go.Operand.tmp 29) (Go.Operand.tmp 42) (Go.Operand.const (Go.Value.bool false)), type := 4, pos := "freightref8.go:40", after := #[{ on := 2, ground := Go.Ground.data }, { on := 15, ground := Go.Ground.data }], guard := none } : Oper)) (v := ?_) rfl (by kernel_rfl) (by kernel_rfl) (by kernel_rfl) (fun _ _ _ h => h) (Or.inl ⟨by rfl, ?_⟩) (by assumption) ?_
                rotate_left
                · (intro w hSw; (try dsimp only at hSw); go_simp; try with_reducible rfl)
                try simp only [Act.put, List.setIfInBounds_toArray, List.set_cons_zero, List.set_cons_succ]
                refine wpAnyH_done (by kernel_rfl) ?_ _
                refine NoPanic.normal ?_
                go_wp2_with fail; (try clear j5); exact ⟨⟨j + 1 + 1, by have := HLT.out; omega, by go_num, Lib.hid (by rw [okTo_succ, HO.out, step_next HEX.out HEY.out, HF.out, HLX.out]; rfl), kk.trans' ((by assumption : S2 wr b (off + j * N) y b (off + (j + 1) * N) x _).2.2)⟩, by have := HLT.out; simp [intOf]; omega⟩
      · obtain rfl : i = n := by omega
        go_wp2_with fail
        go_returns
        exact ⟨by rw [HV.out, HO.out]; rfl, kk⟩
  · have HV := Lib.hid (valid_short (show ¬ l.length ≤ 32 by omega))
    have h33 : (32 : Int) < n := by omega
    clear hl h32
    go_enter Try.func18, Try.ntmps18
    go_wp2_with fail
    go_returns
    exact ⟨by rw [HV.out]; rfl, Keep.refl _ _⟩

set_option maxHeartbeats 2000000 in
set_option maxRecDepth 100000 in
theorem lawBelow_any (xs ys : List UInt8) (w : World) (hx : xs.length = 32) (hy : ys.length = 32) :
    Calls Try.prog 49 #[.agg (bs xs).toArray, .agg (bs ys).toArray] w fun e w' => e = .returned (.bool (decide (Lib.compareBytes xs ys < 0))) ∧ Keep [] w w' := by
  have HX := Lib.hid hx
  have HY := Lib.hid hy
  clear hx hy
  go_enter Try.func49, Try.ntmps49
  obtain ⟨p, hp⟩ : ∃ p, w.heap.size = p := ⟨_, rfl⟩
  go_wp2_with fail
  go_loopw [5] (fun v wr => ∃ i, i ≤ 32 ∧ v = .int .i64 (i : Nat) ∧ Hid (Lib.compareBytes xs ys = Lib.compareBytes (xs.drop i) (ys.drop i)) ∧ Blk wr p (bs xs).toArray 37 ∧ Blk wr (p + 1) (bs ys).toArray 37 ∧ Keep [] w wr) (fun v _ => 32 - (intOf v).toNat)
  case atStart => exact ⟨0, by omega, rfl, Lib.hid (by simp), by subst hp; exact (Blk.new w _ 37).alloc _, by subst hp; exact Blk.new' _ _ 37 (by simp), ((Keep.refl [] w).alloc _).alloc _⟩
  case round =>
    clear hp
    obtain ⟨i, hi, rfl, HC, BX, BY, kk⟩ := hrel
    by_cases hlt : i < 32
    · obtain ⟨x, hx⟩ : ∃ x, xs[i]? = some x := ⟨_, List.getElem?_eq_getElem (by have := HX.out; omega)⟩
      obtain ⟨y, hy⟩ : ∃ y, ys[i]? = some y := ⟨_, List.getElem?_eq_getElem (by have := HY.out; omega)⟩
      have cx : wr.cell? ⟨p, i, none⟩ = some (B8 x) := BX.cell (by simp [bs, hx])
      have cy : wr.cell? ⟨p + 1, i, none⟩ = some (B8 y) := BY.cell (by simp [bs, hy])
      have HS := Lib.hid (cmp_step hx hy)
      have i0 : (0 : Int) ≤ i := by omega
      have i1 : (i : Int) < 32 := by omega
      have hBX := BX
      have hBY := BY
      clear hx hy
      by_cases h1 : x < y
      · have t1 : decide (((x.toNat : Nat) : Int) < (y.toNat : Nat)) = true := by simp only [decide_eq_true_eq, decide_eq_false_iff_not, UInt8.lt_iff_toNat_lt] at h1 ⊢; omega
        have t2 : (((x.toNat : Nat) : Int) == (y.toNat : Nat)) = false := by simp only [UInt8.lt_iff_toNat_lt] at h1; simp; omega
        have HR := Lib.hid (HC.out.trans (HS.out.trans (if_pos h1)))
        have HT := Lib.hid (decide_eq_true (UInt8.lt_iff_toNat_lt.1 h1))
        clear h1
        go_wp2_with fail
        go_quiet (fail)
        go_wp2_with fail
        go_quiet (fail)
        go_wp2_with fail
        go_returns
        refine ⟨?_, kk.drewN.drewN⟩
        rw [HR.out]
        show Ending.returned (.bool (decide (x.toNat < y.toNat))) = _
        rw [HT.out]; rfl
      · have t1 : decide (((x.toNat : Nat) : Int) < (y.toNat : Nat)) = false := by simp only [decide_eq_true_eq, decide_eq_false_iff_not, UInt8.lt_iff_toNat_lt] at h1 ⊢; omega
        by_cases h2 : y < x
        · have t2 : (((x.toNat : Nat) : Int) == (y.toNat : Nat)) = false := by simp only [UInt8.lt_iff_toNat_lt] at h2; simp; omega
          have HR := Lib.hid (HC.out.trans (HS.out.trans ((if_neg h1).trans (if_pos h2))))
          have HT := Lib.hid (decide_eq_false (fun h => h1 (UInt8.lt_iff_toNat_lt.2 h)))
          clear h1 h2
          go_wp2_with fail
          go_quiet (fail)
          go_wp2_with fail
          go_quiet (fail)
          go_wp2_with fail
          go_returns
          refine ⟨?_, kk.drewN.drewN⟩
          rw [HR.out]
          show Ending.returned (.bool (decide (x.toNat < y.toNat))) = _
          rw [HT.out]; rfl
        · have t2 : (((x.toNat : Nat) : Int) == (y.toNat : Nat)) = true := by simp only [UInt8.lt_iff_toNat_lt] at h1 h2; simp; omega
          have HR := Lib.hid (HC.out.trans (HS.out.trans ((if_neg h1).trans (if_neg h2))))
          clear h1 h2
          go_wp2_with fail
          go_quiet (fail)
          go_wp2_with fail
          exact ⟨⟨i + 1, by omega, by go_num, HR, hBX.drewN, hBY.drewN, kk.drewN⟩, by simp [intOf]; omega⟩
    · obtain rfl : i = 32 := by omega
      rw [List.drop_eq_nil_of_le (by rw [HX.out]; omega), List.drop_eq_nil_of_le (by rw [HY.out]; omega)] at HC
      go_wp2_with fail
      go_returns
      exact ⟨by rw [HC.out]; rfl, kk⟩
end Go.Proofs.Ytjdkeabimcajlaa

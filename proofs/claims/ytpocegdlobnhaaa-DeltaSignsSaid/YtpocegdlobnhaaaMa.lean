/- May a signature be? may of the program. -/
import Derived.Test.YtpocegdlobnhaaaNa
import Derived.Test.YtpocegdlobnhaaaSt
set_option linter.unusedVariables false
set_option linter.unusedSimpArgs false
set_option maxRecDepth 100000
namespace Go.Proofs.Ytpocegdlobnhaaa
open Go.RowKit

def okK (wd : Int) (x : Wk) : Bool := decide (0 ≤ x.sum ∧ x.sum ≤ 4294967295) && noB x.id wd.toNat
def okTo (wd : Int) (l : List Wk) (i : Nat) : Bool := (l.take i).all (okK wd)
theorem okTo_zero (wd : Int) (l : List Wk) : okTo wd l 0 = true := rfl
theorem okTo_succ {wd : Int} {l : List Wk} {i : Nat} {x : Wk} (h : l[i]? = some x) : okTo wd l (i + 1) = (okTo wd l i && okK wd x) := by unfold okTo; rw [List.take_add_one, h]; simp
theorem okTo_no {wd : Int} {l : List Wk} {i : Nat} {x : Wk} (h : l[i]? = some x) (hx : okK wd x = false) : l.all (okK wd) = false := by
  rw [List.all_eq_false]; exact ⟨x, List.mem_of_getElem? h, by simp [hx]⟩
theorem okTo_end {wd : Int} {l : List Wk} (h : okTo wd l l.length = true) : l.all (okK wd) = true := by unfold okTo at h; rwa [List.take_length] at h
/-- May it be, but for its blocks? -/
def mayH (s : Sg) : Bool := okW s.width && okS s.size && decide (0 ≤ s.length ∧ s.length ≤ 131072) && decide ((s.blocks.length : Int) = s.length / s.size) && decide (s.blocks.length ≤ 2048) && noB s.base s.width.toNat
def mayO (s : Sg) : Bool := mayH s && s.blocks.all (okK s.width)
theorem width_k (v : Int) (w : World) : Calls Try.prog 41 #[.int .i64 v] w fun e w' => e = .returned (.bool (okW v)) ∧ Keep [] w w' := by
  refine (isWidth_any v w).mono ?_
  rintro e w' ⟨rfl, rfl⟩; exact ⟨rfl, Keep.refl _ _⟩
theorem size_k (v : Int) (w : World) : Calls Try.prog 42 #[.int .i64 v] w fun e w' => e = .returned (.bool (okS v)) ∧ Keep [] w w' := by
  refine (isSize_any v w).mono ?_
  rintro e w' ⟨rfl, rfl⟩; exact ⟨rfl, Keep.refl _ _⟩
theorem tdiv_of {a b : Int} (ha : 0 ≤ a) : a.tdiv b = a / b := Int.tdiv_eq_ediv_of_nonneg ha

set_option maxHeartbeats 8000000 in
theorem may_any (s : Sg) (a : Option Addr) (n c : Nat) (w : World) (hx : WsIn w a n c s.blocks) :
    Calls Try.prog 47 #[.agg (s.cells a n c).toArray] w fun e w' => e = .returned (.bool (mayO s)) ∧ Keep [] w w' := by
  have B0 : Blk (w.alloc (.cells (s.cells a n c).toArray 29)) w.heap.size (s.cells a n c).toArray 29 := Blk.new _ _ _
  have k0 : Keep [] w (w.alloc (.cells (s.cells a n c).toArray 29)) := (Keep.refl [] w).alloc _
  obtain ⟨W, hW⟩ : ∃ W, w.alloc (.cells (s.cells a n c).toArray 29) = W := ⟨_, rfl⟩
  obtain ⟨b, hb⟩ : ∃ b, w.heap.size = b := ⟨_, rfl⟩
  rw [hW, hb] at B0
  rw [hW] at k0
  have HW := Lib.hid hW
  have hl := hx.hlen
  have HL := Lib.hid hl
  have hx1 := hx.keep k0 (by simp)
  have hsh := hx.short
  have hn : n ≤ 3518437208884 := by omega
  obtain ⟨cs, hcs⟩ : ∃ cs, (s.cells a n c).toArray = cs := ⟨_, rfl⟩
  have HB := Lib.hid (And.intro (fun W (h : Blk W b cs 29) => by subst hcs; exact sg_width h : ∀ W, Blk W b cs 29 → W.cell? ⟨b, 0, none⟩ = some (.int .i64 s.width))
    (And.intro (fun W (h : Blk W b cs 29) => by subst hcs; exact sg_size h : ∀ W, Blk W b cs 29 → W.cell? ⟨b, 1, none⟩ = some (.int .i64 s.size))
    (And.intro (fun W (h : Blk W b cs 29) => by subst hcs; exact sg_length h : ∀ W, Blk W b cs 29 → W.cell? ⟨b, 2, none⟩ = some (.int .i64 s.length))
    (And.intro (fun W (h : Blk W b cs 29) => by subst hcs; exact sg_blocks h : ∀ W, Blk W b cs 29 → W.cell? ⟨b, 35, none⟩ = some (.slice a n c))
      (fun W (h : Blk W b cs 29) => by subst hcs; exact sg_base h : ∀ W, Blk W b cs 29 → W.rangeAt b 3 (bs s.base))))))
  obtain ⟨wd, sz, ln, bse, bl, lb⟩ := s
  simp only at HB hl hx1 HL
  rw [hcs] at B0 HW
  have hmo : mayO ⟨wd, sz, ln, bse, bl, lb⟩ = (okW wd && okS sz && decide (0 ≤ ln ∧ ln ≤ 131072) && decide ((bl.length : Int) = ln / sz) && decide (bl.length ≤ 2048) && noB bse wd.toNat && bl.all (okK wd)) := rfl
  have HMO := Lib.hid hmo
  obtain ⟨ans, hans⟩ : ∃ ans, mayO ⟨wd, sz, ln, bse, bl, lb⟩ = ans := ⟨_, rfl⟩
  have HANS := Lib.hid hans
  rw [hans, hcs]
  have hi6 := hi26 lb
  clear hmo hans hW hx hsh hcs
  go_enter Try.func47, Try.ntmps47
  go_upto_region 1 with (first
    | (refine Go.Great.wpList_boxTo rfl 29 (.tmp 0) rfl (some 1) rfl b hb cs rfl ?_; rw [HW.out])
    | fail)
  clear hb
  have ke : Keep [] W W.drew := (Keep.refl [] W).drew
  cases hw1 : okW wd with
  | false =>
    have HNO := Lib.hid (show ans = false by rw [← HANS.out, HMO.out, hw1]; simp only [Bool.false_and])
    clear HANS HMO
    refine wp_region_noPanic ?_
    refine wp_region_held_drew (S := fun w' => Blk w' b cs 29) (by kernel_rfl) ?_ (fun hHeld0 => ?_)
    · (try dsimp only); exact B0.keep ke (by simp)
    refine wpAnyH_take (i := 0) (oi := ({ dst := some 5, op := .fieldAddr 29 (.tmp 1) 0, type := 0, pos := "delta.go:57", after := #[], guard := none } : Oper)) (v := ?_) rfl (by kernel_rfl) (by kernel_rfl) (by kernel_rfl) (fun _ _ _ h => h) (Or.inl ⟨by rfl, ?_⟩) (by assumption) ?_
    rotate_left
    · (intro w hSw; (try dsimp only at hSw); go_simp; try with_reducible rfl)
    try simp only [Act.put, List.setIfInBounds_toArray, List.set_cons_zero, List.set_cons_succ]
    refine wpAnyH_take (i := 1) (oi := ({ dst := some 6, op := .load 3 (.tmp 5), type := 3, pos := "delta.go:57", after := #[{ on := 0, ground := .data }], guard := none } : Oper)) (v := ?_) rfl (by kernel_rfl) (by kernel_rfl) (by kernel_rfl) (fun _ _ _ h => h) (Or.inl ⟨by rfl, ?_⟩) (by assumption) ?_
    rotate_left
    · (intro w hSw; (try dsimp only at hSw); have q1 := HB.out.1 _ hSw; go_simp; try with_reducible rfl)
    try simp only [Act.put, List.setIfInBounds_toArray, List.set_cons_zero, List.set_cons_succ]
    refine wpAnyH_ready (rs := [2]) (by kernel_rfl) (by simp) ?_
    refine (AllReadyH.cons (o := ({ dst := some 7, op := .call { callee := .value (.func 41), args := #[.tmp 6], argTypes := #[3] }, type := 4, pos := "delta.go:57", after := #[{ on := 1, ground := .data }], guard := none } : Oper)) rfl (fun K hK => ?_) AllReadyH.nil)
    go_simp
    (refine (width_k _ _).mono ?_; rintro e w' ⟨rfl, kn⟩; have ke := ke.trans' kn; rw [hw1])
    go_wp2_with fail
    refine hK.out _ _ ?_ (fun hHeld1 => ?_)
    · (try dsimp only); exact B0.keep ke (by simp)
    clear hK K
    try simp only [Act.put, List.setIfInBounds_toArray, List.set_cons_zero, List.set_cons_succ]
    refine wpAnyH_take (i := 3) (oi := ({ dst := some 8, op := .unOp .not 4 (.tmp 7), type := 4, pos := "delta.go:57", after := #[{ on := 2, ground := .data }], guard := none } : Oper)) (v := ?_) rfl (by kernel_rfl) (by kernel_rfl) (by kernel_rfl) (fun _ _ _ h => h) (Or.inl ⟨by rfl, ?_⟩) (by assumption) ?_
    rotate_left
    · (intro w hSw; (try dsimp only at hSw); go_simp; try with_reducible rfl)
    try simp only [Act.put, List.setIfInBounds_toArray, List.set_cons_zero, List.set_cons_succ]
    refine wpAnyH_take (i := 4) (oi := ({ dst := some 9, op := .move (.tmp 8), type := 4, pos := "delta.go:57", after := #[{ on := 3, ground := .data }, { on := 2, ground := .chain }], guard := none } : Oper)) (v := ?_) rfl (by kernel_rfl) (by kernel_rfl) (by kernel_rfl) (fun _ _ _ h => h) (Or.inl ⟨by rfl, ?_⟩) (by assumption) ?_
    rotate_left
    · (intro w hSw; (try dsimp only at hSw); go_simp; try with_reducible rfl)
    try simp only [Act.put, List.setIfInBounds_toArray, List.set_cons_zero, List.set_cons_succ]
    refine wpAnyH_take (i := 5) (oi := ({ dst := some 10, op := .fieldAddr 29 (.tmp 1) 1, type := 0, pos := "delta.go:57", after := #[{ on := 4, ground := .guard }], guard := some (4, false) } : Oper)) (v := undef) rfl (by kernel_rfl) (by kernel_rfl) (by kernel_rfl) (fun _ _ _ h => h) (Or.inr ⟨by rfl, rfl⟩) (by assumption) ?_
    try simp only [Act.put, List.setIfInBounds_toArray, List.set_cons_zero, List.set_cons_succ]
    refine wpAnyH_take (i := 6) (oi := ({ dst := some 11, op := .load 3 (.tmp 10), type := 3, pos := "delta.go:57", after := #[{ on := 5, ground := .data }, { on := 4, ground := .guard }], guard := some (4, false) } : Oper)) (v := undef) rfl (by kernel_rfl) (by kernel_rfl) (by kernel_rfl) (fun _ _ _ h => h) (Or.inr ⟨by rfl, rfl⟩) (by assumption) ?_
    try simp only [Act.put, List.setIfInBounds_toArray, List.set_cons_zero, List.set_cons_succ]
    refine wpAnyH_take (i := 7) (oi := ({ dst := some 12, op := .call { callee := .value (.func 42), args := #[.tmp 11], argTypes := #[3] }, type := 4, pos := "delta.go:57", after := #[{ on := 6, ground := .data }, { on := 4, ground := .chain }, { on := 4, ground := .guard }], guard := some (4, false) } : Oper)) (v := undef) rfl (by kernel_rfl) (by kernel_rfl) (by kernel_rfl) (fun _ _ _ h => h) (Or.inr ⟨by rfl, rfl⟩) (by assumption) ?_
    try simp only [Act.put, List.setIfInBounds_toArray, List.set_cons_zero, List.set_cons_succ]
    refine wpAnyH_take (i := 8) (oi := ({ dst := some 13, op := .unOp .not 4 (.tmp 12), type := 4, pos := "delta.go:57", after := #[{ on := 7, ground := .data }, { on := 4, ground := .guard }], guard := some (4, false) } : Oper)) (v := undef) rfl (by kernel_rfl) (by kernel_rfl) (by kernel_rfl) (fun _ _ _ h => h) (Or.inr ⟨by rfl, rfl⟩) (by assumption) ?_
    try simp only [Act.put, List.setIfInBounds_toArray, List.set_cons_zero, List.set_cons_succ]
    refine wpAnyH_take (i := 9) (oi := ({ dst := some 14, op := .pick (.tmp 9) (.const (.bool true)) (.tmp 13), type := 4, pos := "delta.go:57", after := #[{ on := 4, ground := .data }, { on := 8, ground := .data }], guard := none } : Oper)) (v := ?_) rfl (by kernel_rfl) (by kernel_rfl) (by kernel_rfl) (fun _ _ _ h => h) (Or.inl ⟨by rfl, ?_⟩) (by assumption) ?_
    rotate_left
    · (intro w hSw; (try dsimp only at hSw); go_simp; try with_reducible rfl)
    try simp only [Act.put, List.setIfInBounds_toArray, List.set_cons_zero, List.set_cons_succ]
    refine wpAnyH_take (i := 10) (oi := ({ dst := some 15, op := .move (.tmp 14), type := 4, pos := "delta.go:57", after := #[{ on := 9, ground := .data }, { on := 7, ground := .chain }], guard := none } : Oper)) (v := ?_) rfl (by kernel_rfl) (by kernel_rfl) (by kernel_rfl) (fun _ _ _ h => h) (Or.inl ⟨by rfl, ?_⟩) (by assumption) ?_
    rotate_left
    · (intro w hSw; (try dsimp only at hSw); go_simp; try with_reducible rfl)
    try simp only [Act.put, List.setIfInBounds_toArray, List.set_cons_zero, List.set_cons_succ]
    refine wpAnyH_take (i := 11) (oi := ({ dst := some 16, op := .fieldAddr 29 (.tmp 1) 2, type := 0, pos := "delta.go:57", after := #[{ on := 10, ground := .guard }], guard := some (10, false) } : Oper)) (v := undef) rfl (by kernel_rfl) (by kernel_rfl) (by kernel_rfl) (fun _ _ _ h => h) (Or.inr ⟨by rfl, rfl⟩) (by assumption) ?_
    try simp only [Act.put, List.setIfInBounds_toArray, List.set_cons_zero, List.set_cons_succ]
    refine wpAnyH_take (i := 12) (oi := ({ dst := some 17, op := .load 3 (.tmp 16), type := 3, pos := "delta.go:57", after := #[{ on := 11, ground := .data }, { on := 10, ground := .guard }], guard := some (10, false) } : Oper)) (v := undef) rfl (by kernel_rfl) (by kernel_rfl) (by kernel_rfl) (fun _ _ _ h => h) (Or.inr ⟨by rfl, rfl⟩) (by assumption) ?_
    try simp only [Act.put, List.setIfInBounds_toArray, List.set_cons_zero, List.set_cons_succ]
    refine wpAnyH_take (i := 13) (oi := ({ dst := some 18, op := .binOp .lss 3 (.tmp 17) (.const (.int .i64 0)) 3, type := 4, pos := "delta.go:57", after := #[{ on := 12, ground := .data }, { on := 10, ground := .guard }], guard := some (10, false) } : Oper)) (v := undef) rfl (by kernel_rfl) (by kernel_rfl) (by kernel_rfl) (fun _ _ _ h => h) (Or.inr ⟨by rfl, rfl⟩) (by assumption) ?_
    try simp only [Act.put, List.setIfInBounds_toArray, List.set_cons_zero, List.set_cons_succ]
    refine wpAnyH_take (i := 14) (oi := ({ dst := some 19, op := .pick (.tmp 15) (.const (.bool true)) (.tmp 18), type := 4, pos := "delta.go:57", after := #[{ on := 10, ground := .data }, { on := 13, ground := .data }], guard := none } : Oper)) (v := ?_) rfl (by kernel_rfl) (by kernel_rfl) (by kernel_rfl) (fun _ _ _ h => h) (Or.inl ⟨by rfl, ?_⟩) (by assumption) ?_
    rotate_left
    · (intro w hSw; (try dsimp only at hSw); go_simp; try with_reducible rfl)
    try simp only [Act.put, List.setIfInBounds_toArray, List.set_cons_zero, List.set_cons_succ]
    refine wpAnyH_take (i := 15) (oi := ({ dst := some 20, op := .move (.tmp 19), type := 4, pos := "delta.go:57", after := #[{ on := 14, ground := .data }, { on := 10, ground := .chain }], guard := none } : Oper)) (v := ?_) rfl (by kernel_rfl) (by kernel_rfl) (by kernel_rfl) (fun _ _ _ h => h) (Or.inl ⟨by rfl, ?_⟩) (by assumption) ?_
    rotate_left
    · (intro w hSw; (try dsimp only at hSw); go_simp; try with_reducible rfl)
    try simp only [Act.put, List.setIfInBounds_toArray, List.set_cons_zero, List.set_cons_succ]
    refine wpAnyH_take (i := 16) (oi := ({ dst := some 21, op := .fieldAddr 29 (.tmp 1) 2, type := 0, pos := "delta.go:57", after := #[{ on := 15, ground := .guard }], guard := some (15, false) } : Oper)) (v := undef) rfl (by kernel_rfl) (by kernel_rfl) (by kernel_rfl) (fun _ _ _ h => h) (Or.inr ⟨by rfl, rfl⟩) (by assumption) ?_
    try simp only [Act.put, List.setIfInBounds_toArray, List.set_cons_zero, List.set_cons_succ]
    refine wpAnyH_take (i := 17) (oi := ({ dst := some 22, op := .load 3 (.tmp 21), type := 3, pos := "delta.go:57", after := #[{ on := 16, ground := .data }, { on := 15, ground := .guard }], guard := some (15, false) } : Oper)) (v := undef) rfl (by kernel_rfl) (by kernel_rfl) (by kernel_rfl) (fun _ _ _ h => h) (Or.inr ⟨by rfl, rfl⟩) (by assumption) ?_
    try simp only [Act.put, List.setIfInBounds_toArray, List.set_cons_zero, List.set_cons_succ]
    refine wpAnyH_take (i := 18) (oi := ({ dst := some 23, op := .binOp .gtr 3 (.tmp 22) (.const (.int .i64 131072)) 3, type := 4, pos := "delta.go:57", after := #[{ on := 17, ground := .data }, { on := 15, ground := .guard }], guard := some (15, false) } : Oper)) (v := undef) rfl (by kernel_rfl) (by kernel_rfl) (by kernel_rfl) (fun _ _ _ h => h) (Or.inr ⟨by rfl, rfl⟩) (by assumption) ?_
    try simp only [Act.put, List.setIfInBounds_toArray, List.set_cons_zero, List.set_cons_succ]
    refine wpAnyH_take (i := 19) (oi := ({ dst := some 24, op := .pick (.tmp 20) (.const (.bool true)) (.tmp 23), type := 4, pos := "delta.go:57", after := #[{ on := 15, ground := .data }, { on := 18, ground := .data }], guard := none } : Oper)) (v := ?_) rfl (by kernel_rfl) (by kernel_rfl) (by kernel_rfl) (fun _ _ _ h => h) (Or.inl ⟨by rfl, ?_⟩) (by assumption) ?_
    rotate_left
    · (intro w hSw; (try dsimp only at hSw); go_simp; try with_reducible rfl)
    try simp only [Act.put, List.setIfInBounds_toArray, List.set_cons_zero, List.set_cons_succ]
    refine wpAnyH_take (i := 20) (oi := ({ dst := some 25, op := .move (.tmp 24), type := 4, pos := "delta.go:57", after := #[{ on := 19, ground := .data }, { on := 15, ground := .chain }], guard := none } : Oper)) (v := ?_) rfl (by kernel_rfl) (by kernel_rfl) (by kernel_rfl) (fun _ _ _ h => h) (Or.inl ⟨by rfl, ?_⟩) (by assumption) ?_
    rotate_left
    · (intro w hSw; (try dsimp only at hSw); go_simp; try with_reducible rfl)
    try simp only [Act.put, List.setIfInBounds_toArray, List.set_cons_zero, List.set_cons_succ]
    refine wpAnyH_take (i := 21) (oi := ({ dst := some 26, op := .fieldAddr 29 (.tmp 1) 4, type := 0, pos := "delta.go:57", after := #[{ on := 20, ground := .guard }], guard := some (20, false) } : Oper)) (v := undef) rfl (by kernel_rfl) (by kernel_rfl) (by kernel_rfl) (fun _ _ _ h => h) (Or.inr ⟨by rfl, rfl⟩) (by assumption) ?_
    try simp only [Act.put, List.setIfInBounds_toArray, List.set_cons_zero, List.set_cons_succ]
    refine wpAnyH_take (i := 22) (oi := ({ dst := some 27, op := .load 27 (.tmp 26), type := 27, pos := "delta.go:57", after := #[{ on := 21, ground := .data }, { on := 20, ground := .guard }], guard := some (20, false) } : Oper)) (v := undef) rfl (by kernel_rfl) (by kernel_rfl) (by kernel_rfl) (fun _ _ _ h => h) (Or.inr ⟨by rfl, rfl⟩) (by assumption) ?_
    try simp only [Act.put, List.setIfInBounds_toArray, List.set_cons_zero, List.set_cons_succ]
    refine wpAnyH_take (i := 23) (oi := ({ dst := some 28, op := .call { callee := .builtin .len, args := #[.tmp 27], argTypes := #[27] }, type := 3, pos := "delta.go:57", after := #[{ on := 22, ground := .data }, { on := 20, ground := .guard }], guard := some (20, false) } : Oper)) (v := undef) rfl (by kernel_rfl) (by kernel_rfl) (by kernel_rfl) (fun _ _ _ h => h) (Or.inr ⟨by rfl, rfl⟩) (by assumption) ?_
    try simp only [Act.put, List.setIfInBounds_toArray, List.set_cons_zero, List.set_cons_succ]
    refine wpAnyH_take (i := 24) (oi := ({ dst := some 29, op := .fieldAddr 29 (.tmp 1) 2, type := 0, pos := "delta.go:57", after := #[{ on := 20, ground := .guard }], guard := some (20, false) } : Oper)) (v := undef) rfl (by kernel_rfl) (by kernel_rfl) (by kernel_rfl) (fun _ _ _ h => h) (Or.inr ⟨by rfl, rfl⟩) (by assumption) ?_
    try simp only [Act.put, List.setIfInBounds_toArray, List.set_cons_zero, List.set_cons_succ]
    refine wpAnyH_take (i := 25) (oi := ({ dst := some 30, op := .load 3 (.tmp 29), type := 3, pos := "delta.go:57", after := #[{ on := 24, ground := .data }, { on := 20, ground := .guard }], guard := some (20, false) } : Oper)) (v := undef) rfl (by kernel_rfl) (by kernel_rfl) (by kernel_rfl) (fun _ _ _ h => h) (Or.inr ⟨by rfl, rfl⟩) (by assumption) ?_
    try simp only [Act.put, List.setIfInBounds_toArray, List.set_cons_zero, List.set_cons_succ]
    refine wpAnyH_take (i := 26) (oi := ({ dst := some 31, op := .fieldAddr 29 (.tmp 1) 1, type := 0, pos := "delta.go:57", after := #[{ on := 20, ground := .guard }], guard := some (20, false) } : Oper)) (v := undef) rfl (by kernel_rfl) (by kernel_rfl) (by kernel_rfl) (fun _ _ _ h => h) (Or.inr ⟨by rfl, rfl⟩) (by assumption) ?_
    try simp only [Act.put, List.setIfInBounds_toArray, List.set_cons_zero, List.set_cons_succ]
    refine wpAnyH_take (i := 27) (oi := ({ dst := some 32, op := .load 3 (.tmp 31), type := 3, pos := "delta.go:57", after := #[{ on := 26, ground := .data }, { on := 20, ground := .guard }], guard := some (20, false) } : Oper)) (v := undef) rfl (by kernel_rfl) (by kernel_rfl) (by kernel_rfl) (fun _ _ _ h => h) (Or.inr ⟨by rfl, rfl⟩) (by assumption) ?_
    try simp only [Act.put, List.setIfInBounds_toArray, List.set_cons_zero, List.set_cons_succ]
    refine wpAnyH_take (i := 28) (oi := ({ dst := some 33, op := .binOp .quo 3 (.tmp 30) (.tmp 32) 3, type := 3, pos := "delta.go:57", after := #[{ on := 25, ground := .data }, { on := 27, ground := .data }, { on := 20, ground := .guard }], guard := some (20, false) } : Oper)) (v := undef) rfl (by kernel_rfl) (by kernel_rfl) (by kernel_rfl) (fun _ _ _ h => h) (Or.inr ⟨by rfl, rfl⟩) (by assumption) ?_
    try simp only [Act.put, List.setIfInBounds_toArray, List.set_cons_zero, List.set_cons_succ]
    refine wpAnyH_take (i := 29) (oi := ({ dst := some 34, op := .binOp .neq 3 (.tmp 28) (.tmp 33) 3, type := 4, pos := "delta.go:57", after := #[{ on := 23, ground := .data }, { on := 28, ground := .data }, { on := 20, ground := .guard }], guard := some (20, false) } : Oper)) (v := undef) rfl (by kernel_rfl) (by kernel_rfl) (by kernel_rfl) (fun _ _ _ h => h) (Or.inr ⟨by rfl, rfl⟩) (by assumption) ?_
    try simp only [Act.put, List.setIfInBounds_toArray, List.set_cons_zero, List.set_cons_succ]
    refine wpAnyH_take (i := 30) (oi := ({ dst := some 35, op := .pick (.tmp 25) (.const (.bool true)) (.tmp 34), type := 4, pos := "delta.go:57", after := #[{ on := 20, ground := .data }, { on := 29, ground := .data }], guard := none } : Oper)) (v := ?_) rfl (by kernel_rfl) (by kernel_rfl) (by kernel_rfl) (fun _ _ _ h => h) (Or.inl ⟨by rfl, ?_⟩) (by assumption) ?_
    rotate_left
    · (intro w hSw; (try dsimp only at hSw); go_simp; try with_reducible rfl)
    try simp only [Act.put, List.setIfInBounds_toArray, List.set_cons_zero, List.set_cons_succ]
    refine wpAnyH_take (i := 31) (oi := ({ dst := some 36, op := .move (.tmp 35), type := 4, pos := "delta.go:57", after := #[{ on := 30, ground := .data }, { on := 20, ground := .chain }], guard := none } : Oper)) (v := ?_) rfl (by kernel_rfl) (by kernel_rfl) (by kernel_rfl) (fun _ _ _ h => h) (Or.inl ⟨by rfl, ?_⟩) (by assumption) ?_
    rotate_left
    · (intro w hSw; (try dsimp only at hSw); go_simp; try with_reducible rfl)
    try simp only [Act.put, List.setIfInBounds_toArray, List.set_cons_zero, List.set_cons_succ]
    refine wpAnyH_take (i := 32) (oi := ({ dst := some 37, op := .fieldAddr 29 (.tmp 1) 4, type := 0, pos := "delta.go:57", after := #[{ on := 31, ground := .guard }], guard := some (31, false) } : Oper)) (v := undef) rfl (by kernel_rfl) (by kernel_rfl) (by kernel_rfl) (fun _ _ _ h => h) (Or.inr ⟨by rfl, rfl⟩) (by assumption) ?_
    try simp only [Act.put, List.setIfInBounds_toArray, List.set_cons_zero, List.set_cons_succ]
    refine wpAnyH_take (i := 33) (oi := ({ dst := some 38, op := .load 27 (.tmp 37), type := 27, pos := "delta.go:57", after := #[{ on := 32, ground := .data }, { on := 31, ground := .guard }], guard := some (31, false) } : Oper)) (v := undef) rfl (by kernel_rfl) (by kernel_rfl) (by kernel_rfl) (fun _ _ _ h => h) (Or.inr ⟨by rfl, rfl⟩) (by assumption) ?_
    try simp only [Act.put, List.setIfInBounds_toArray, List.set_cons_zero, List.set_cons_succ]
    refine wpAnyH_take (i := 34) (oi := ({ dst := some 39, op := .call { callee := .builtin .len, args := #[.tmp 38], argTypes := #[27] }, type := 3, pos := "delta.go:57", after := #[{ on := 33, ground := .data }, { on := 31, ground := .guard }], guard := some (31, false) } : Oper)) (v := undef) rfl (by kernel_rfl) (by kernel_rfl) (by kernel_rfl) (fun _ _ _ h => h) (Or.inr ⟨by rfl, rfl⟩) (by assumption) ?_
    try simp only [Act.put, List.setIfInBounds_toArray, List.set_cons_zero, List.set_cons_succ]
    refine wpAnyH_take (i := 35) (oi := ({ dst := some 40, op := .binOp .gtr 3 (.tmp 39) (.const (.int .i64 2048)) 3, type := 4, pos := "delta.go:57", after := #[{ on := 34, ground := .data }, { on := 31, ground := .guard }], guard := some (31, false) } : Oper)) (v := undef) rfl (by kernel_rfl) (by kernel_rfl) (by kernel_rfl) (fun _ _ _ h => h) (Or.inr ⟨by rfl, rfl⟩) (by assumption) ?_
    try simp only [Act.put, List.setIfInBounds_toArray, List.set_cons_zero, List.set_cons_succ]
    refine wpAnyH_take (i := 36) (oi := ({ dst := some 41, op := .pick (.tmp 36) (.const (.bool true)) (.tmp 40), type := 4, pos := "delta.go:57", after := #[{ on := 31, ground := .data }, { on := 35, ground := .data }], guard := none } : Oper)) (v := ?_) rfl (by kernel_rfl) (by kernel_rfl) (by kernel_rfl) (fun _ _ _ h => h) (Or.inl ⟨by rfl, ?_⟩) (by assumption) ?_
    rotate_left
    · (intro w hSw; (try dsimp only at hSw); go_simp; try with_reducible rfl)
    try simp only [Act.put, List.setIfInBounds_toArray, List.set_cons_zero, List.set_cons_succ]
    refine wpAnyH_take (i := 37) (oi := ({ dst := some 42, op := .move (.tmp 41), type := 4, pos := "delta.go:57", after := #[{ on := 36, ground := .data }, { on := 31, ground := .chain }], guard := none } : Oper)) (v := ?_) rfl (by kernel_rfl) (by kernel_rfl) (by kernel_rfl) (fun _ _ _ h => h) (Or.inl ⟨by rfl, ?_⟩) (by assumption) ?_
    rotate_left
    · (intro w hSw; (try dsimp only at hSw); go_simp; try with_reducible rfl)
    try simp only [Act.put, List.setIfInBounds_toArray, List.set_cons_zero, List.set_cons_succ]
    refine wpAnyH_take (i := 38) (oi := ({ dst := some 43, op := .fieldAddr 29 (.tmp 1) 3, type := 0, pos := "delta.go:57", after := #[{ on := 37, ground := .guard }], guard := some (37, false) } : Oper)) (v := undef) rfl (by kernel_rfl) (by kernel_rfl) (by kernel_rfl) (fun _ _ _ h => h) (Or.inr ⟨by rfl, rfl⟩) (by assumption) ?_
    try simp only [Act.put, List.setIfInBounds_toArray, List.set_cons_zero, List.set_cons_succ]
    refine wpAnyH_take (i := 39) (oi := ({ dst := some 44, op := .load 26 (.tmp 43), type := 26, pos := "delta.go:57", after := #[{ on := 38, ground := .data }, { on := 37, ground := .guard }], guard := some (37, false) } : Oper)) (v := undef) rfl (by kernel_rfl) (by kernel_rfl) (by kernel_rfl) (fun _ _ _ h => h) (Or.inr ⟨by rfl, rfl⟩) (by assumption) ?_
    try simp only [Act.put, List.setIfInBounds_toArray, List.set_cons_zero, List.set_cons_succ]
    refine wpAnyH_take (i := 40) (oi := ({ dst := some 45, op := .fieldAddr 29 (.tmp 1) 0, type := 0, pos := "delta.go:57", after := #[{ on := 37, ground := .guard }], guard := some (37, false) } : Oper)) (v := undef) rfl (by kernel_rfl) (by kernel_rfl) (by kernel_rfl) (fun _ _ _ h => h) (Or.inr ⟨by rfl, rfl⟩) (by assumption) ?_
    try simp only [Act.put, List.setIfInBounds_toArray, List.set_cons_zero, List.set_cons_succ]
    refine wpAnyH_take (i := 41) (oi := ({ dst := some 46, op := .load 3 (.tmp 45), type := 3, pos := "delta.go:57", after := #[{ on := 40, ground := .data }, { on := 37, ground := .guard }], guard := some (37, false) } : Oper)) (v := undef) rfl (by kernel_rfl) (by kernel_rfl) (by kernel_rfl) (fun _ _ _ h => h) (Or.inr ⟨by rfl, rfl⟩) (by assumption) ?_
    try simp only [Act.put, List.setIfInBounds_toArray, List.set_cons_zero, List.set_cons_succ]
    refine wpAnyH_take (i := 42) (oi := ({ dst := some 47, op := .call { callee := .value (.func 76), args := #[.tmp 44, .tmp 46], argTypes := #[26, 3] }, type := 4, pos := "delta.go:57", after := #[{ on := 39, ground := .data }, { on := 41, ground := .data }, { on := 37, ground := .chain }, { on := 37, ground := .guard }], guard := some (37, false) } : Oper)) (v := undef) rfl (by kernel_rfl) (by kernel_rfl) (by kernel_rfl) (fun _ _ _ h => h) (Or.inr ⟨by rfl, rfl⟩) (by assumption) ?_
    try simp only [Act.put, List.setIfInBounds_toArray, List.set_cons_zero, List.set_cons_succ]
    refine wpAnyH_take (i := 43) (oi := ({ dst := some 48, op := .unOp .not 4 (.tmp 47), type := 4, pos := "delta.go:57", after := #[{ on := 42, ground := .data }, { on := 37, ground := .guard }], guard := some (37, false) } : Oper)) (v := undef) rfl (by kernel_rfl) (by kernel_rfl) (by kernel_rfl) (fun _ _ _ h => h) (Or.inr ⟨by rfl, rfl⟩) (by assumption) ?_
    try simp only [Act.put, List.setIfInBounds_toArray, List.set_cons_zero, List.set_cons_succ]
    refine wpAnyH_take (i := 44) (oi := ({ dst := some 49, op := .pick (.tmp 42) (.const (.bool true)) (.tmp 48), type := 4, pos := "delta.go:57", after := #[{ on := 37, ground := .data }, { on := 43, ground := .data }], guard := none } : Oper)) (v := ?_) rfl (by kernel_rfl) (by kernel_rfl) (by kernel_rfl) (fun _ _ _ h => h) (Or.inl ⟨by rfl, ?_⟩) (by assumption) ?_
    rotate_left
    · (intro w hSw; (try dsimp only at hSw); go_simp; try with_reducible rfl)
    try simp only [Act.put, List.setIfInBounds_toArray, List.set_cons_zero, List.set_cons_succ]
    refine wpAnyH_done (by kernel_rfl) ?_ _
    refine NoPanic.normal ?_
    skip
    go_wp2_with fail
    go_returns
    exact ⟨by rw [HNO.out]; rfl, k0.trans' ke⟩
  | true =>
    cases hs1 : okS sz with
    | false =>
      have HNO := Lib.hid (show ans = false by rw [← HANS.out, HMO.out, hs1]; simp only [Bool.false_and, Bool.and_false])
      clear HANS HMO
      refine wp_region_noPanic ?_
      refine wp_region_held_drew (S := fun w' => Blk w' b cs 29) (by kernel_rfl) ?_ (fun hHeld0 => ?_)
      · (try dsimp only); exact B0.keep ke (by simp)
      refine wpAnyH_take (i := 0) (oi := ({ dst := some 5, op := .fieldAddr 29 (.tmp 1) 0, type := 0, pos := "delta.go:57", after := #[], guard := none } : Oper)) (v := ?_) rfl (by kernel_rfl) (by kernel_rfl) (by kernel_rfl) (fun _ _ _ h => h) (Or.inl ⟨by rfl, ?_⟩) (by assumption) ?_
      rotate_left
      · (intro w hSw; (try dsimp only at hSw); go_simp; try with_reducible rfl)
      try simp only [Act.put, List.setIfInBounds_toArray, List.set_cons_zero, List.set_cons_succ]
      refine wpAnyH_take (i := 1) (oi := ({ dst := some 6, op := .load 3 (.tmp 5), type := 3, pos := "delta.go:57", after := #[{ on := 0, ground := .data }], guard := none } : Oper)) (v := ?_) rfl (by kernel_rfl) (by kernel_rfl) (by kernel_rfl) (fun _ _ _ h => h) (Or.inl ⟨by rfl, ?_⟩) (by assumption) ?_
      rotate_left
      · (intro w hSw; (try dsimp only at hSw); have q1 := HB.out.1 _ hSw; go_simp; try with_reducible rfl)
      try simp only [Act.put, List.setIfInBounds_toArray, List.set_cons_zero, List.set_cons_succ]
      refine wpAnyH_ready (rs := [2]) (by kernel_rfl) (by simp) ?_
      refine (AllReadyH.cons (o := ({ dst := some 7, op := .call { callee := .value (.func 41), args := #[.tmp 6], argTypes := #[3] }, type := 4, pos := "delta.go:57", after := #[{ on := 1, ground := .data }], guard := none } : Oper)) rfl (fun K hK => ?_) AllReadyH.nil)
      go_simp
      (refine (width_k _ _).mono ?_; rintro e w' ⟨rfl, kn⟩; have ke := ke.trans' kn; rw [hw1])
      go_wp2_with fail
      refine hK.out _ _ ?_ (fun hHeld1 => ?_)
      · (try dsimp only); exact B0.keep ke (by simp)
      clear hK K
      try simp only [Act.put, List.setIfInBounds_toArray, List.set_cons_zero, List.set_cons_succ]
      refine wpAnyH_take (i := 3) (oi := ({ dst := some 8, op := .unOp .not 4 (.tmp 7), type := 4, pos := "delta.go:57", after := #[{ on := 2, ground := .data }], guard := none } : Oper)) (v := ?_) rfl (by kernel_rfl) (by kernel_rfl) (by kernel_rfl) (fun _ _ _ h => h) (Or.inl ⟨by rfl, ?_⟩) (by assumption) ?_
      rotate_left
      · (intro w hSw; (try dsimp only at hSw); go_simp; try with_reducible rfl)
      try simp only [Act.put, List.setIfInBounds_toArray, List.set_cons_zero, List.set_cons_succ]
      refine wpAnyH_take (i := 4) (oi := ({ dst := some 9, op := .move (.tmp 8), type := 4, pos := "delta.go:57", after := #[{ on := 3, ground := .data }, { on := 2, ground := .chain }], guard := none } : Oper)) (v := ?_) rfl (by kernel_rfl) (by kernel_rfl) (by kernel_rfl) (fun _ _ _ h => h) (Or.inl ⟨by rfl, ?_⟩) (by assumption) ?_
      rotate_left
      · (intro w hSw; (try dsimp only at hSw); go_simp; try with_reducible rfl)
      try simp only [Act.put, List.setIfInBounds_toArray, List.set_cons_zero, List.set_cons_succ]
      refine wpAnyH_take (i := 5) (oi := ({ dst := some 10, op := .fieldAddr 29 (.tmp 1) 1, type := 0, pos := "delta.go:57", after := #[{ on := 4, ground := .guard }], guard := some (4, false) } : Oper)) (v := ?_) rfl (by kernel_rfl) (by kernel_rfl) (by kernel_rfl) (fun _ _ _ h => h) (Or.inl ⟨by rfl, ?_⟩) (by assumption) ?_
      rotate_left
      · (intro w hSw; (try dsimp only at hSw); go_simp; try with_reducible rfl)
      try simp only [Act.put, List.setIfInBounds_toArray, List.set_cons_zero, List.set_cons_succ]
      refine wpAnyH_take (i := 6) (oi := ({ dst := some 11, op := .load 3 (.tmp 10), type := 3, pos := "delta.go:57", after := #[{ on := 5, ground := .data }, { on := 4, ground := .guard }], guard := some (4, false) } : Oper)) (v := ?_) rfl (by kernel_rfl) (by kernel_rfl) (by kernel_rfl) (fun _ _ _ h => h) (Or.inl ⟨by rfl, ?_⟩) (by assumption) ?_
      rotate_left
      · (intro w hSw; (try dsimp only at hSw); have q1 := HB.out.2.1 _ hSw; go_simp; try with_reducible rfl)
      try simp only [Act.put, List.setIfInBounds_toArray, List.set_cons_zero, List.set_cons_succ]
      refine wpAnyH_ready (rs := [7]) (by kernel_rfl) (by simp) ?_
      refine (AllReadyH.cons (o := ({ dst := some 12, op := .call { callee := .value (.func 42), args := #[.tmp 11], argTypes := #[3] }, type := 4, pos := "delta.go:57", after := #[{ on := 6, ground := .data }, { on := 4, ground := .chain }, { on := 4, ground := .guard }], guard := some (4, false) } : Oper)) rfl (fun K hK => ?_) AllReadyH.nil)
      go_simp
      (refine (size_k _ _).mono ?_; rintro e w' ⟨rfl, kn⟩; have ke := ke.trans' kn; rw [hs1])
      go_wp2_with fail
      refine hK.out _ _ ?_ (fun hHeld2 => ?_)
      · (try dsimp only); exact B0.keep ke (by simp)
      clear hK K
      try simp only [Act.put, List.setIfInBounds_toArray, List.set_cons_zero, List.set_cons_succ]
      refine wpAnyH_take (i := 8) (oi := ({ dst := some 13, op := .unOp .not 4 (.tmp 12), type := 4, pos := "delta.go:57", after := #[{ on := 7, ground := .data }, { on := 4, ground := .guard }], guard := some (4, false) } : Oper)) (v := ?_) rfl (by kernel_rfl) (by kernel_rfl) (by kernel_rfl) (fun _ _ _ h => h) (Or.inl ⟨by rfl, ?_⟩) (by assumption) ?_
      rotate_left
      · (intro w hSw; (try dsimp only at hSw); go_simp; try with_reducible rfl)
      try simp only [Act.put, List.setIfInBounds_toArray, List.set_cons_zero, List.set_cons_succ]
      refine wpAnyH_take (i := 9) (oi := ({ dst := some 14, op := .pick (.tmp 9) (.const (.bool true)) (.tmp 13), type := 4, pos := "delta.go:57", after := #[{ on := 4, ground := .data }, { on := 8, ground := .data }], guard := none } : Oper)) (v := ?_) rfl (by kernel_rfl) (by kernel_rfl) (by kernel_rfl) (fun _ _ _ h => h) (Or.inl ⟨by rfl, ?_⟩) (by assumption) ?_
      rotate_left
      · (intro w hSw; (try dsimp only at hSw); go_simp; try with_reducible rfl)
      try simp only [Act.put, List.setIfInBounds_toArray, List.set_cons_zero, List.set_cons_succ]
      refine wpAnyH_take (i := 10) (oi := ({ dst := some 15, op := .move (.tmp 14), type := 4, pos := "delta.go:57", after := #[{ on := 9, ground := .data }, { on := 7, ground := .chain }], guard := none } : Oper)) (v := ?_) rfl (by kernel_rfl) (by kernel_rfl) (by kernel_rfl) (fun _ _ _ h => h) (Or.inl ⟨by rfl, ?_⟩) (by assumption) ?_
      rotate_left
      · (intro w hSw; (try dsimp only at hSw); go_simp; try with_reducible rfl)
      try simp only [Act.put, List.setIfInBounds_toArray, List.set_cons_zero, List.set_cons_succ]
      refine wpAnyH_take (i := 11) (oi := ({ dst := some 16, op := .fieldAddr 29 (.tmp 1) 2, type := 0, pos := "delta.go:57", after := #[{ on := 10, ground := .guard }], guard := some (10, false) } : Oper)) (v := undef) rfl (by kernel_rfl) (by kernel_rfl) (by kernel_rfl) (fun _ _ _ h => h) (Or.inr ⟨by rfl, rfl⟩) (by assumption) ?_
      try simp only [Act.put, List.setIfInBounds_toArray, List.set_cons_zero, List.set_cons_succ]
      refine wpAnyH_take (i := 12) (oi := ({ dst := some 17, op := .load 3 (.tmp 16), type := 3, pos := "delta.go:57", after := #[{ on := 11, ground := .data }, { on := 10, ground := .guard }], guard := some (10, false) } : Oper)) (v := undef) rfl (by kernel_rfl) (by kernel_rfl) (by kernel_rfl) (fun _ _ _ h => h) (Or.inr ⟨by rfl, rfl⟩) (by assumption) ?_
      try simp only [Act.put, List.setIfInBounds_toArray, List.set_cons_zero, List.set_cons_succ]
      refine wpAnyH_take (i := 13) (oi := ({ dst := some 18, op := .binOp .lss 3 (.tmp 17) (.const (.int .i64 0)) 3, type := 4, pos := "delta.go:57", after := #[{ on := 12, ground := .data }, { on := 10, ground := .guard }], guard := some (10, false) } : Oper)) (v := undef) rfl (by kernel_rfl) (by kernel_rfl) (by kernel_rfl) (fun _ _ _ h => h) (Or.inr ⟨by rfl, rfl⟩) (by assumption) ?_
      try simp only [Act.put, List.setIfInBounds_toArray, List.set_cons_zero, List.set_cons_succ]
      refine wpAnyH_take (i := 14) (oi := ({ dst := some 19, op := .pick (.tmp 15) (.const (.bool true)) (.tmp 18), type := 4, pos := "delta.go:57", after := #[{ on := 10, ground := .data }, { on := 13, ground := .data }], guard := none } : Oper)) (v := ?_) rfl (by kernel_rfl) (by kernel_rfl) (by kernel_rfl) (fun _ _ _ h => h) (Or.inl ⟨by rfl, ?_⟩) (by assumption) ?_
      rotate_left
      · (intro w hSw; (try dsimp only at hSw); go_simp; try with_reducible rfl)
      try simp only [Act.put, List.setIfInBounds_toArray, List.set_cons_zero, List.set_cons_succ]
      refine wpAnyH_take (i := 15) (oi := ({ dst := some 20, op := .move (.tmp 19), type := 4, pos := "delta.go:57", after := #[{ on := 14, ground := .data }, { on := 10, ground := .chain }], guard := none } : Oper)) (v := ?_) rfl (by kernel_rfl) (by kernel_rfl) (by kernel_rfl) (fun _ _ _ h => h) (Or.inl ⟨by rfl, ?_⟩) (by assumption) ?_
      rotate_left
      · (intro w hSw; (try dsimp only at hSw); go_simp; try with_reducible rfl)
      try simp only [Act.put, List.setIfInBounds_toArray, List.set_cons_zero, List.set_cons_succ]
      refine wpAnyH_take (i := 16) (oi := ({ dst := some 21, op := .fieldAddr 29 (.tmp 1) 2, type := 0, pos := "delta.go:57", after := #[{ on := 15, ground := .guard }], guard := some (15, false) } : Oper)) (v := undef) rfl (by kernel_rfl) (by kernel_rfl) (by kernel_rfl) (fun _ _ _ h => h) (Or.inr ⟨by rfl, rfl⟩) (by assumption) ?_
      try simp only [Act.put, List.setIfInBounds_toArray, List.set_cons_zero, List.set_cons_succ]
      refine wpAnyH_take (i := 17) (oi := ({ dst := some 22, op := .load 3 (.tmp 21), type := 3, pos := "delta.go:57", after := #[{ on := 16, ground := .data }, { on := 15, ground := .guard }], guard := some (15, false) } : Oper)) (v := undef) rfl (by kernel_rfl) (by kernel_rfl) (by kernel_rfl) (fun _ _ _ h => h) (Or.inr ⟨by rfl, rfl⟩) (by assumption) ?_
      try simp only [Act.put, List.setIfInBounds_toArray, List.set_cons_zero, List.set_cons_succ]
      refine wpAnyH_take (i := 18) (oi := ({ dst := some 23, op := .binOp .gtr 3 (.tmp 22) (.const (.int .i64 131072)) 3, type := 4, pos := "delta.go:57", after := #[{ on := 17, ground := .data }, { on := 15, ground := .guard }], guard := some (15, false) } : Oper)) (v := undef) rfl (by kernel_rfl) (by kernel_rfl) (by kernel_rfl) (fun _ _ _ h => h) (Or.inr ⟨by rfl, rfl⟩) (by assumption) ?_
      try simp only [Act.put, List.setIfInBounds_toArray, List.set_cons_zero, List.set_cons_succ]
      refine wpAnyH_take (i := 19) (oi := ({ dst := some 24, op := .pick (.tmp 20) (.const (.bool true)) (.tmp 23), type := 4, pos := "delta.go:57", after := #[{ on := 15, ground := .data }, { on := 18, ground := .data }], guard := none } : Oper)) (v := ?_) rfl (by kernel_rfl) (by kernel_rfl) (by kernel_rfl) (fun _ _ _ h => h) (Or.inl ⟨by rfl, ?_⟩) (by assumption) ?_
      rotate_left
      · (intro w hSw; (try dsimp only at hSw); go_simp; try with_reducible rfl)
      try simp only [Act.put, List.setIfInBounds_toArray, List.set_cons_zero, List.set_cons_succ]
      refine wpAnyH_take (i := 20) (oi := ({ dst := some 25, op := .move (.tmp 24), type := 4, pos := "delta.go:57", after := #[{ on := 19, ground := .data }, { on := 15, ground := .chain }], guard := none } : Oper)) (v := ?_) rfl (by kernel_rfl) (by kernel_rfl) (by kernel_rfl) (fun _ _ _ h => h) (Or.inl ⟨by rfl, ?_⟩) (by assumption) ?_
      rotate_left
      · (intro w hSw; (try dsimp only at hSw); go_simp; try with_reducible rfl)
      try simp only [Act.put, List.setIfInBounds_toArray, List.set_cons_zero, List.set_cons_succ]
      refine wpAnyH_take (i := 21) (oi := ({ dst := some 26, op := .fieldAddr 29 (.tmp 1) 4, type := 0, pos := "delta.go:57", after := #[{ on := 20, ground := .guard }], guard := some (20, false) } : Oper)) (v := undef) rfl (by kernel_rfl) (by kernel_rfl) (by kernel_rfl) (fun _ _ _ h => h) (Or.inr ⟨by rfl, rfl⟩) (by assumption) ?_
      try simp only [Act.put, List.setIfInBounds_toArray, List.set_cons_zero, List.set_cons_succ]
      refine wpAnyH_take (i := 22) (oi := ({ dst := some 27, op := .load 27 (.tmp 26), type := 27, pos := "delta.go:57", after := #[{ on := 21, ground := .data }, { on := 20, ground := .guard }], guard := some (20, false) } : Oper)) (v := undef) rfl (by kernel_rfl) (by kernel_rfl) (by kernel_rfl) (fun _ _ _ h => h) (Or.inr ⟨by rfl, rfl⟩) (by assumption) ?_
      try simp only [Act.put, List.setIfInBounds_toArray, List.set_cons_zero, List.set_cons_succ]
      refine wpAnyH_take (i := 23) (oi := ({ dst := some 28, op := .call { callee := .builtin .len, args := #[.tmp 27], argTypes := #[27] }, type := 3, pos := "delta.go:57", after := #[{ on := 22, ground := .data }, { on := 20, ground := .guard }], guard := some (20, false) } : Oper)) (v := undef) rfl (by kernel_rfl) (by kernel_rfl) (by kernel_rfl) (fun _ _ _ h => h) (Or.inr ⟨by rfl, rfl⟩) (by assumption) ?_
      try simp only [Act.put, List.setIfInBounds_toArray, List.set_cons_zero, List.set_cons_succ]
      refine wpAnyH_take (i := 24) (oi := ({ dst := some 29, op := .fieldAddr 29 (.tmp 1) 2, type := 0, pos := "delta.go:57", after := #[{ on := 20, ground := .guard }], guard := some (20, false) } : Oper)) (v := undef) rfl (by kernel_rfl) (by kernel_rfl) (by kernel_rfl) (fun _ _ _ h => h) (Or.inr ⟨by rfl, rfl⟩) (by assumption) ?_
      try simp only [Act.put, List.setIfInBounds_toArray, List.set_cons_zero, List.set_cons_succ]
      refine wpAnyH_take (i := 25) (oi := ({ dst := some 30, op := .load 3 (.tmp 29), type := 3, pos := "delta.go:57", after := #[{ on := 24, ground := .data }, { on := 20, ground := .guard }], guard := some (20, false) } : Oper)) (v := undef) rfl (by kernel_rfl) (by kernel_rfl) (by kernel_rfl) (fun _ _ _ h => h) (Or.inr ⟨by rfl, rfl⟩) (by assumption) ?_
      try simp only [Act.put, List.setIfInBounds_toArray, List.set_cons_zero, List.set_cons_succ]
      refine wpAnyH_take (i := 26) (oi := ({ dst := some 31, op := .fieldAddr 29 (.tmp 1) 1, type := 0, pos := "delta.go:57", after := #[{ on := 20, ground := .guard }], guard := some (20, false) } : Oper)) (v := undef) rfl (by kernel_rfl) (by kernel_rfl) (by kernel_rfl) (fun _ _ _ h => h) (Or.inr ⟨by rfl, rfl⟩) (by assumption) ?_
      try simp only [Act.put, List.setIfInBounds_toArray, List.set_cons_zero, List.set_cons_succ]
      refine wpAnyH_take (i := 27) (oi := ({ dst := some 32, op := .load 3 (.tmp 31), type := 3, pos := "delta.go:57", after := #[{ on := 26, ground := .data }, { on := 20, ground := .guard }], guard := some (20, false) } : Oper)) (v := undef) rfl (by kernel_rfl) (by kernel_rfl) (by kernel_rfl) (fun _ _ _ h => h) (Or.inr ⟨by rfl, rfl⟩) (by assumption) ?_
      try simp only [Act.put, List.setIfInBounds_toArray, List.set_cons_zero, List.set_cons_succ]
      refine wpAnyH_take (i := 28) (oi := ({ dst := some 33, op := .binOp .quo 3 (.tmp 30) (.tmp 32) 3, type := 3, pos := "delta.go:57", after := #[{ on := 25, ground := .data }, { on := 27, ground := .data }, { on := 20, ground := .guard }], guard := some (20, false) } : Oper)) (v := undef) rfl (by kernel_rfl) (by kernel_rfl) (by kernel_rfl) (fun _ _ _ h => h) (Or.inr ⟨by rfl, rfl⟩) (by assumption) ?_
      try simp only [Act.put, List.setIfInBounds_toArray, List.set_cons_zero, List.set_cons_succ]
      refine wpAnyH_take (i := 29) (oi := ({ dst := some 34, op := .binOp .neq 3 (.tmp 28) (.tmp 33) 3, type := 4, pos := "delta.go:57", after := #[{ on := 23, ground := .data }, { on := 28, ground := .data }, { on := 20, ground := .guard }], guard := some (20, false) } : Oper)) (v := undef) rfl (by kernel_rfl) (by kernel_rfl) (by kernel_rfl) (fun _ _ _ h => h) (Or.inr ⟨by rfl, rfl⟩) (by assumption) ?_
      try simp only [Act.put, List.setIfInBounds_toArray, List.set_cons_zero, List.set_cons_succ]
      refine wpAnyH_take (i := 30) (oi := ({ dst := some 35, op := .pick (.tmp 25) (.const (.bool true)) (.tmp 34), type := 4, pos := "delta.go:57", after := #[{ on := 20, ground := .data }, { on := 29, ground := .data }], guard := none } : Oper)) (v := ?_) rfl (by kernel_rfl) (by kernel_rfl) (by kernel_rfl) (fun _ _ _ h => h) (Or.inl ⟨by rfl, ?_⟩) (by assumption) ?_
      rotate_left
      · (intro w hSw; (try dsimp only at hSw); go_simp; try with_reducible rfl)
      try simp only [Act.put, List.setIfInBounds_toArray, List.set_cons_zero, List.set_cons_succ]
      refine wpAnyH_take (i := 31) (oi := ({ dst := some 36, op := .move (.tmp 35), type := 4, pos := "delta.go:57", after := #[{ on := 30, ground := .data }, { on := 20, ground := .chain }], guard := none } : Oper)) (v := ?_) rfl (by kernel_rfl) (by kernel_rfl) (by kernel_rfl) (fun _ _ _ h => h) (Or.inl ⟨by rfl, ?_⟩) (by assumption) ?_
      rotate_left
      · (intro w hSw; (try dsimp only at hSw); go_simp; try with_reducible rfl)
      try simp only [Act.put, List.setIfInBounds_toArray, List.set_cons_zero, List.set_cons_succ]
      refine wpAnyH_take (i := 32) (oi := ({ dst := some 37, op := .fieldAddr 29 (.tmp 1) 4, type := 0, pos := "delta.go:57", after := #[{ on := 31, ground := .guard }], guard := some (31, false) } : Oper)) (v := undef) rfl (by kernel_rfl) (by kernel_rfl) (by kernel_rfl) (fun _ _ _ h => h) (Or.inr ⟨by rfl, rfl⟩) (by assumption) ?_
      try simp only [Act.put, List.setIfInBounds_toArray, List.set_cons_zero, List.set_cons_succ]
      refine wpAnyH_take (i := 33) (oi := ({ dst := some 38, op := .load 27 (.tmp 37), type := 27, pos := "delta.go:57", after := #[{ on := 32, ground := .data }, { on := 31, ground := .guard }], guard := some (31, false) } : Oper)) (v := undef) rfl (by kernel_rfl) (by kernel_rfl) (by kernel_rfl) (fun _ _ _ h => h) (Or.inr ⟨by rfl, rfl⟩) (by assumption) ?_
      try simp only [Act.put, List.setIfInBounds_toArray, List.set_cons_zero, List.set_cons_succ]
      refine wpAnyH_take (i := 34) (oi := ({ dst := some 39, op := .call { callee := .builtin .len, args := #[.tmp 38], argTypes := #[27] }, type := 3, pos := "delta.go:57", after := #[{ on := 33, ground := .data }, { on := 31, ground := .guard }], guard := some (31, false) } : Oper)) (v := undef) rfl (by kernel_rfl) (by kernel_rfl) (by kernel_rfl) (fun _ _ _ h => h) (Or.inr ⟨by rfl, rfl⟩) (by assumption) ?_
      try simp only [Act.put, List.setIfInBounds_toArray, List.set_cons_zero, List.set_cons_succ]
      refine wpAnyH_take (i := 35) (oi := ({ dst := some 40, op := .binOp .gtr 3 (.tmp 39) (.const (.int .i64 2048)) 3, type := 4, pos := "delta.go:57", after := #[{ on := 34, ground := .data }, { on := 31, ground := .guard }], guard := some (31, false) } : Oper)) (v := undef) rfl (by kernel_rfl) (by kernel_rfl) (by kernel_rfl) (fun _ _ _ h => h) (Or.inr ⟨by rfl, rfl⟩) (by assumption) ?_
      try simp only [Act.put, List.setIfInBounds_toArray, List.set_cons_zero, List.set_cons_succ]
      refine wpAnyH_take (i := 36) (oi := ({ dst := some 41, op := .pick (.tmp 36) (.const (.bool true)) (.tmp 40), type := 4, pos := "delta.go:57", after := #[{ on := 31, ground := .data }, { on := 35, ground := .data }], guard := none } : Oper)) (v := ?_) rfl (by kernel_rfl) (by kernel_rfl) (by kernel_rfl) (fun _ _ _ h => h) (Or.inl ⟨by rfl, ?_⟩) (by assumption) ?_
      rotate_left
      · (intro w hSw; (try dsimp only at hSw); go_simp; try with_reducible rfl)
      try simp only [Act.put, List.setIfInBounds_toArray, List.set_cons_zero, List.set_cons_succ]
      refine wpAnyH_take (i := 37) (oi := ({ dst := some 42, op := .move (.tmp 41), type := 4, pos := "delta.go:57", after := #[{ on := 36, ground := .data }, { on := 31, ground := .chain }], guard := none } : Oper)) (v := ?_) rfl (by kernel_rfl) (by kernel_rfl) (by kernel_rfl) (fun _ _ _ h => h) (Or.inl ⟨by rfl, ?_⟩) (by assumption) ?_
      rotate_left
      · (intro w hSw; (try dsimp only at hSw); go_simp; try with_reducible rfl)
      try simp only [Act.put, List.setIfInBounds_toArray, List.set_cons_zero, List.set_cons_succ]
      refine wpAnyH_take (i := 38) (oi := ({ dst := some 43, op := .fieldAddr 29 (.tmp 1) 3, type := 0, pos := "delta.go:57", after := #[{ on := 37, ground := .guard }], guard := some (37, false) } : Oper)) (v := undef) rfl (by kernel_rfl) (by kernel_rfl) (by kernel_rfl) (fun _ _ _ h => h) (Or.inr ⟨by rfl, rfl⟩) (by assumption) ?_
      try simp only [Act.put, List.setIfInBounds_toArray, List.set_cons_zero, List.set_cons_succ]
      refine wpAnyH_take (i := 39) (oi := ({ dst := some 44, op := .load 26 (.tmp 43), type := 26, pos := "delta.go:57", after := #[{ on := 38, ground := .data }, { on := 37, ground := .guard }], guard := some (37, false) } : Oper)) (v := undef) rfl (by kernel_rfl) (by kernel_rfl) (by kernel_rfl) (fun _ _ _ h => h) (Or.inr ⟨by rfl, rfl⟩) (by assumption) ?_
      try simp only [Act.put, List.setIfInBounds_toArray, List.set_cons_zero, List.set_cons_succ]
      refine wpAnyH_take (i := 40) (oi := ({ dst := some 45, op := .fieldAddr 29 (.tmp 1) 0, type := 0, pos := "delta.go:57", after := #[{ on := 37, ground := .guard }], guard := some (37, false) } : Oper)) (v := undef) rfl (by kernel_rfl) (by kernel_rfl) (by kernel_rfl) (fun _ _ _ h => h) (Or.inr ⟨by rfl, rfl⟩) (by assumption) ?_
      try simp only [Act.put, List.setIfInBounds_toArray, List.set_cons_zero, List.set_cons_succ]
      refine wpAnyH_take (i := 41) (oi := ({ dst := some 46, op := .load 3 (.tmp 45), type := 3, pos := "delta.go:57", after := #[{ on := 40, ground := .data }, { on := 37, ground := .guard }], guard := some (37, false) } : Oper)) (v := undef) rfl (by kernel_rfl) (by kernel_rfl) (by kernel_rfl) (fun _ _ _ h => h) (Or.inr ⟨by rfl, rfl⟩) (by assumption) ?_
      try simp only [Act.put, List.setIfInBounds_toArray, List.set_cons_zero, List.set_cons_succ]
      refine wpAnyH_take (i := 42) (oi := ({ dst := some 47, op := .call { callee := .value (.func 76), args := #[.tmp 44, .tmp 46], argTypes := #[26, 3] }, type := 4, pos := "delta.go:57", after := #[{ on := 39, ground := .data }, { on := 41, ground := .data }, { on := 37, ground := .chain }, { on := 37, ground := .guard }], guard := some (37, false) } : Oper)) (v := undef) rfl (by kernel_rfl) (by kernel_rfl) (by kernel_rfl) (fun _ _ _ h => h) (Or.inr ⟨by rfl, rfl⟩) (by assumption) ?_
      try simp only [Act.put, List.setIfInBounds_toArray, List.set_cons_zero, List.set_cons_succ]
      refine wpAnyH_take (i := 43) (oi := ({ dst := some 48, op := .unOp .not 4 (.tmp 47), type := 4, pos := "delta.go:57", after := #[{ on := 42, ground := .data }, { on := 37, ground := .guard }], guard := some (37, false) } : Oper)) (v := undef) rfl (by kernel_rfl) (by kernel_rfl) (by kernel_rfl) (fun _ _ _ h => h) (Or.inr ⟨by rfl, rfl⟩) (by assumption) ?_
      try simp only [Act.put, List.setIfInBounds_toArray, List.set_cons_zero, List.set_cons_succ]
      refine wpAnyH_take (i := 44) (oi := ({ dst := some 49, op := .pick (.tmp 42) (.const (.bool true)) (.tmp 48), type := 4, pos := "delta.go:57", after := #[{ on := 37, ground := .data }, { on := 43, ground := .data }], guard := none } : Oper)) (v := ?_) rfl (by kernel_rfl) (by kernel_rfl) (by kernel_rfl) (fun _ _ _ h => h) (Or.inl ⟨by rfl, ?_⟩) (by assumption) ?_
      rotate_left
      · (intro w hSw; (try dsimp only at hSw); go_simp; try with_reducible rfl)
      try simp only [Act.put, List.setIfInBounds_toArray, List.set_cons_zero, List.set_cons_succ]
      refine wpAnyH_done (by kernel_rfl) ?_ _
      refine NoPanic.normal ?_
      skip
      go_wp2_with fail
      go_returns
      exact ⟨by rw [HNO.out]; rfl, k0.trans' ke⟩
    | true =>
      have hwd : 1 ≤ wd ∧ wd ≤ 32 := by simpa [okW] using hw1
      have hsz : 16 ≤ sz ∧ sz ≤ 4096 := by simpa [okS] using hs1
      have hz0 : (sz == 0) = false := by simp; omega
      have hz1 : ¬ sz = 0 := by omega
      by_cases h1 : ln < 0
      · have d1 : decide (ln < 0) = true := decide_eq_true h1
        have HNO := Lib.hid (show ans = false by rw [← HANS.out, HMO.out, decide_eq_false (show ¬ (0 ≤ ln ∧ ln ≤ 131072) by omega)]; simp only [Bool.false_and, Bool.and_false])
        clear HANS HMO
        refine wp_region_noPanic ?_
        refine wp_region_held_drew (S := fun w' => Blk w' b cs 29) (by kernel_rfl) ?_ (fun hHeld0 => ?_)
        · (try dsimp only); exact B0.keep ke (by simp)
        refine wpAnyH_take (i := 0) (oi := ({ dst := some 5, op := .fieldAddr 29 (.tmp 1) 0, type := 0, pos := "delta.go:57", after := #[], guard := none } : Oper)) (v := ?_) rfl (by kernel_rfl) (by kernel_rfl) (by kernel_rfl) (fun _ _ _ h => h) (Or.inl ⟨by rfl, ?_⟩) (by assumption) ?_
        rotate_left
        · (intro w hSw; (try dsimp only at hSw); go_simp; try with_reducible rfl)
        try simp only [Act.put, List.setIfInBounds_toArray, List.set_cons_zero, List.set_cons_succ]
        refine wpAnyH_take (i := 1) (oi := ({ dst := some 6, op := .load 3 (.tmp 5), type := 3, pos := "delta.go:57", after := #[{ on := 0, ground := .data }], guard := none } : Oper)) (v := ?_) rfl (by kernel_rfl) (by kernel_rfl) (by kernel_rfl) (fun _ _ _ h => h) (Or.inl ⟨by rfl, ?_⟩) (by assumption) ?_
        rotate_left
        · (intro w hSw; (try dsimp only at hSw); have q1 := HB.out.1 _ hSw; go_simp; try with_reducible rfl)
        try simp only [Act.put, List.setIfInBounds_toArray, List.set_cons_zero, List.set_cons_succ]
        refine wpAnyH_ready (rs := [2]) (by kernel_rfl) (by simp) ?_
        refine (AllReadyH.cons (o := ({ dst := some 7, op := .call { callee := .value (.func 41), args := #[.tmp 6], argTypes := #[3] }, type := 4, pos := "delta.go:57", after := #[{ on := 1, ground := .data }], guard := none } : Oper)) rfl (fun K hK => ?_) AllReadyH.nil)
        go_simp
        (refine (width_k _ _).mono ?_; rintro e w' ⟨rfl, kn⟩; have ke := ke.trans' kn; rw [hw1])
        go_wp2_with fail
        refine hK.out _ _ ?_ (fun hHeld1 => ?_)
        · (try dsimp only); exact B0.keep ke (by simp)
        clear hK K
        try simp only [Act.put, List.setIfInBounds_toArray, List.set_cons_zero, List.set_cons_succ]
        refine wpAnyH_take (i := 3) (oi := ({ dst := some 8, op := .unOp .not 4 (.tmp 7), type := 4, pos := "delta.go:57", after := #[{ on := 2, ground := .data }], guard := none } : Oper)) (v := ?_) rfl (by kernel_rfl) (by kernel_rfl) (by kernel_rfl) (fun _ _ _ h => h) (Or.inl ⟨by rfl, ?_⟩) (by assumption) ?_
        rotate_left
        · (intro w hSw; (try dsimp only at hSw); go_simp; try with_reducible rfl)
        try simp only [Act.put, List.setIfInBounds_toArray, List.set_cons_zero, List.set_cons_succ]
        refine wpAnyH_take (i := 4) (oi := ({ dst := some 9, op := .move (.tmp 8), type := 4, pos := "delta.go:57", after := #[{ on := 3, ground := .data }, { on := 2, ground := .chain }], guard := none } : Oper)) (v := ?_) rfl (by kernel_rfl) (by kernel_rfl) (by kernel_rfl) (fun _ _ _ h => h) (Or.inl ⟨by rfl, ?_⟩) (by assumption) ?_
        rotate_left
        · (intro w hSw; (try dsimp only at hSw); go_simp; try with_reducible rfl)
        try simp only [Act.put, List.setIfInBounds_toArray, List.set_cons_zero, List.set_cons_succ]
        refine wpAnyH_take (i := 5) (oi := ({ dst := some 10, op := .fieldAddr 29 (.tmp 1) 1, type := 0, pos := "delta.go:57", after := #[{ on := 4, ground := .guard }], guard := some (4, false) } : Oper)) (v := ?_) rfl (by kernel_rfl) (by kernel_rfl) (by kernel_rfl) (fun _ _ _ h => h) (Or.inl ⟨by rfl, ?_⟩) (by assumption) ?_
        rotate_left
        · (intro w hSw; (try dsimp only at hSw); go_simp; try with_reducible rfl)
        try simp only [Act.put, List.setIfInBounds_toArray, List.set_cons_zero, List.set_cons_succ]
        refine wpAnyH_take (i := 6) (oi := ({ dst := some 11, op := .load 3 (.tmp 10), type := 3, pos := "delta.go:57", after := #[{ on := 5, ground := .data }, { on := 4, ground := .guard }], guard := some (4, false) } : Oper)) (v := ?_) rfl (by kernel_rfl) (by kernel_rfl) (by kernel_rfl) (fun _ _ _ h => h) (Or.inl ⟨by rfl, ?_⟩) (by assumption) ?_
        rotate_left
        · (intro w hSw; (try dsimp only at hSw); have q1 := HB.out.2.1 _ hSw; go_simp; try with_reducible rfl)
        try simp only [Act.put, List.setIfInBounds_toArray, List.set_cons_zero, List.set_cons_succ]
        refine wpAnyH_ready (rs := [7]) (by kernel_rfl) (by simp) ?_
        refine (AllReadyH.cons (o := ({ dst := some 12, op := .call { callee := .value (.func 42), args := #[.tmp 11], argTypes := #[3] }, type := 4, pos := "delta.go:57", after := #[{ on := 6, ground := .data }, { on := 4, ground := .chain }, { on := 4, ground := .guard }], guard := some (4, false) } : Oper)) rfl (fun K hK => ?_) AllReadyH.nil)
        go_simp
        (refine (size_k _ _).mono ?_; rintro e w' ⟨rfl, kn⟩; have ke := ke.trans' kn; rw [hs1])
        go_wp2_with fail
        refine hK.out _ _ ?_ (fun hHeld2 => ?_)
        · (try dsimp only); exact B0.keep ke (by simp)
        clear hK K
        try simp only [Act.put, List.setIfInBounds_toArray, List.set_cons_zero, List.set_cons_succ]
        refine wpAnyH_take (i := 8) (oi := ({ dst := some 13, op := .unOp .not 4 (.tmp 12), type := 4, pos := "delta.go:57", after := #[{ on := 7, ground := .data }, { on := 4, ground := .guard }], guard := some (4, false) } : Oper)) (v := ?_) rfl (by kernel_rfl) (by kernel_rfl) (by kernel_rfl) (fun _ _ _ h => h) (Or.inl ⟨by rfl, ?_⟩) (by assumption) ?_
        rotate_left
        · (intro w hSw; (try dsimp only at hSw); go_simp; try with_reducible rfl)
        try simp only [Act.put, List.setIfInBounds_toArray, List.set_cons_zero, List.set_cons_succ]
        refine wpAnyH_take (i := 9) (oi := ({ dst := some 14, op := .pick (.tmp 9) (.const (.bool true)) (.tmp 13), type := 4, pos := "delta.go:57", after := #[{ on := 4, ground := .data }, { on := 8, ground := .data }], guard := none } : Oper)) (v := ?_) rfl (by kernel_rfl) (by kernel_rfl) (by kernel_rfl) (fun _ _ _ h => h) (Or.inl ⟨by rfl, ?_⟩) (by assumption) ?_
        rotate_left
        · (intro w hSw; (try dsimp only at hSw); go_simp; try with_reducible rfl)
        try simp only [Act.put, List.setIfInBounds_toArray, List.set_cons_zero, List.set_cons_succ]
        refine wpAnyH_take (i := 10) (oi := ({ dst := some 15, op := .move (.tmp 14), type := 4, pos := "delta.go:57", after := #[{ on := 9, ground := .data }, { on := 7, ground := .chain }], guard := none } : Oper)) (v := ?_) rfl (by kernel_rfl) (by kernel_rfl) (by kernel_rfl) (fun _ _ _ h => h) (Or.inl ⟨by rfl, ?_⟩) (by assumption) ?_
        rotate_left
        · (intro w hSw; (try dsimp only at hSw); go_simp; try with_reducible rfl)
        try simp only [Act.put, List.setIfInBounds_toArray, List.set_cons_zero, List.set_cons_succ]
        refine wpAnyH_take (i := 11) (oi := ({ dst := some 16, op := .fieldAddr 29 (.tmp 1) 2, type := 0, pos := "delta.go:57", after := #[{ on := 10, ground := .guard }], guard := some (10, false) } : Oper)) (v := ?_) rfl (by kernel_rfl) (by kernel_rfl) (by kernel_rfl) (fun _ _ _ h => h) (Or.inl ⟨by rfl, ?_⟩) (by assumption) ?_
        rotate_left
        · (intro w hSw; (try dsimp only at hSw); go_simp; try with_reducible rfl)
        try simp only [Act.put, List.setIfInBounds_toArray, List.set_cons_zero, List.set_cons_succ]
        refine wpAnyH_take (i := 12) (oi := ({ dst := some 17, op := .load 3 (.tmp 16), type := 3, pos := "delta.go:57", after := #[{ on := 11, ground := .data }, { on := 10, ground := .guard }], guard := some (10, false) } : Oper)) (v := ?_) rfl (by kernel_rfl) (by kernel_rfl) (by kernel_rfl) (fun _ _ _ h => h) (Or.inl ⟨by rfl, ?_⟩) (by assumption) ?_
        rotate_left
        · (intro w hSw; (try dsimp only at hSw); have q1 := HB.out.2.2.1 _ hSw; go_simp; try with_reducible rfl)
        try simp only [Act.put, List.setIfInBounds_toArray, List.set_cons_zero, List.set_cons_succ]
        refine wpAnyH_take (i := 13) (oi := ({ dst := some 18, op := .binOp .lss 3 (.tmp 17) (.const (.int .i64 0)) 3, type := 4, pos := "delta.go:57", after := #[{ on := 12, ground := .data }, { on := 10, ground := .guard }], guard := some (10, false) } : Oper)) (v := ?_) rfl (by kernel_rfl) (by kernel_rfl) (by kernel_rfl) (fun _ _ _ h => h) (Or.inl ⟨by rfl, ?_⟩) (by assumption) ?_
        rotate_left
        · (intro w hSw; (try dsimp only at hSw); go_simp; try with_reducible rfl)
        try simp only [Act.put, List.setIfInBounds_toArray, List.set_cons_zero, List.set_cons_succ]
        refine wpAnyH_take (i := 14) (oi := ({ dst := some 19, op := .pick (.tmp 15) (.const (.bool true)) (.tmp 18), type := 4, pos := "delta.go:57", after := #[{ on := 10, ground := .data }, { on := 13, ground := .data }], guard := none } : Oper)) (v := ?_) rfl (by kernel_rfl) (by kernel_rfl) (by kernel_rfl) (fun _ _ _ h => h) (Or.inl ⟨by rfl, ?_⟩) (by assumption) ?_
        rotate_left
        · (intro w hSw; (try dsimp only at hSw); go_simp; try with_reducible rfl)
        try simp only [Act.put, List.setIfInBounds_toArray, List.set_cons_zero, List.set_cons_succ]
        refine wpAnyH_take (i := 15) (oi := ({ dst := some 20, op := .move (.tmp 19), type := 4, pos := "delta.go:57", after := #[{ on := 14, ground := .data }, { on := 10, ground := .chain }], guard := none } : Oper)) (v := ?_) rfl (by kernel_rfl) (by kernel_rfl) (by kernel_rfl) (fun _ _ _ h => h) (Or.inl ⟨by rfl, ?_⟩) (by assumption) ?_
        rotate_left
        · (intro w hSw; (try dsimp only at hSw); go_simp; try with_reducible rfl)
        try simp only [Act.put, List.setIfInBounds_toArray, List.set_cons_zero, List.set_cons_succ]
        refine wpAnyH_take (i := 16) (oi := ({ dst := some 21, op := .fieldAddr 29 (.tmp 1) 2, type := 0, pos := "delta.go:57", after := #[{ on := 15, ground := .guard }], guard := some (15, false) } : Oper)) (v := undef) rfl (by kernel_rfl) (by kernel_rfl) (by kernel_rfl) (fun _ _ _ h => h) (Or.inr ⟨by rfl, rfl⟩) (by assumption) ?_
        try simp only [Act.put, List.setIfInBounds_toArray, List.set_cons_zero, List.set_cons_succ]
        refine wpAnyH_take (i := 17) (oi := ({ dst := some 22, op := .load 3 (.tmp 21), type := 3, pos := "delta.go:57", after := #[{ on := 16, ground := .data }, { on := 15, ground := .guard }], guard := some (15, false) } : Oper)) (v := undef) rfl (by kernel_rfl) (by kernel_rfl) (by kernel_rfl) (fun _ _ _ h => h) (Or.inr ⟨by rfl, rfl⟩) (by assumption) ?_
        try simp only [Act.put, List.setIfInBounds_toArray, List.set_cons_zero, List.set_cons_succ]
        refine wpAnyH_take (i := 18) (oi := ({ dst := some 23, op := .binOp .gtr 3 (.tmp 22) (.const (.int .i64 131072)) 3, type := 4, pos := "delta.go:57", after := #[{ on := 17, ground := .data }, { on := 15, ground := .guard }], guard := some (15, false) } : Oper)) (v := undef) rfl (by kernel_rfl) (by kernel_rfl) (by kernel_rfl) (fun _ _ _ h => h) (Or.inr ⟨by rfl, rfl⟩) (by assumption) ?_
        try simp only [Act.put, List.setIfInBounds_toArray, List.set_cons_zero, List.set_cons_succ]
        refine wpAnyH_take (i := 19) (oi := ({ dst := some 24, op := .pick (.tmp 20) (.const (.bool true)) (.tmp 23), type := 4, pos := "delta.go:57", after := #[{ on := 15, ground := .data }, { on := 18, ground := .data }], guard := none } : Oper)) (v := ?_) rfl (by kernel_rfl) (by kernel_rfl) (by kernel_rfl) (fun _ _ _ h => h) (Or.inl ⟨by rfl, ?_⟩) (by assumption) ?_
        rotate_left
        · (intro w hSw; (try dsimp only at hSw); go_simp; try with_reducible rfl)
        try simp only [Act.put, List.setIfInBounds_toArray, List.set_cons_zero, List.set_cons_succ]
        refine wpAnyH_take (i := 20) (oi := ({ dst := some 25, op := .move (.tmp 24), type := 4, pos := "delta.go:57", after := #[{ on := 19, ground := .data }, { on := 15, ground := .chain }], guard := none } : Oper)) (v := ?_) rfl (by kernel_rfl) (by kernel_rfl) (by kernel_rfl) (fun _ _ _ h => h) (Or.inl ⟨by rfl, ?_⟩) (by assumption) ?_
        rotate_left
        · (intro w hSw; (try dsimp only at hSw); go_simp; try with_reducible rfl)
        try simp only [Act.put, List.setIfInBounds_toArray, List.set_cons_zero, List.set_cons_succ]
        refine wpAnyH_take (i := 21) (oi := ({ dst := some 26, op := .fieldAddr 29 (.tmp 1) 4, type := 0, pos := "delta.go:57", after := #[{ on := 20, ground := .guard }], guard := some (20, false) } : Oper)) (v := undef) rfl (by kernel_rfl) (by kernel_rfl) (by kernel_rfl) (fun _ _ _ h => h) (Or.inr ⟨by rfl, rfl⟩) (by assumption) ?_
        try simp only [Act.put, List.setIfInBounds_toArray, List.set_cons_zero, List.set_cons_succ]
        refine wpAnyH_take (i := 22) (oi := ({ dst := some 27, op := .load 27 (.tmp 26), type := 27, pos := "delta.go:57", after := #[{ on := 21, ground := .data }, { on := 20, ground := .guard }], guard := some (20, false) } : Oper)) (v := undef) rfl (by kernel_rfl) (by kernel_rfl) (by kernel_rfl) (fun _ _ _ h => h) (Or.inr ⟨by rfl, rfl⟩) (by assumption) ?_
        try simp only [Act.put, List.setIfInBounds_toArray, List.set_cons_zero, List.set_cons_succ]
        refine wpAnyH_take (i := 23) (oi := ({ dst := some 28, op := .call { callee := .builtin .len, args := #[.tmp 27], argTypes := #[27] }, type := 3, pos := "delta.go:57", after := #[{ on := 22, ground := .data }, { on := 20, ground := .guard }], guard := some (20, false) } : Oper)) (v := undef) rfl (by kernel_rfl) (by kernel_rfl) (by kernel_rfl) (fun _ _ _ h => h) (Or.inr ⟨by rfl, rfl⟩) (by assumption) ?_
        try simp only [Act.put, List.setIfInBounds_toArray, List.set_cons_zero, List.set_cons_succ]
        refine wpAnyH_take (i := 24) (oi := ({ dst := some 29, op := .fieldAddr 29 (.tmp 1) 2, type := 0, pos := "delta.go:57", after := #[{ on := 20, ground := .guard }], guard := some (20, false) } : Oper)) (v := undef) rfl (by kernel_rfl) (by kernel_rfl) (by kernel_rfl) (fun _ _ _ h => h) (Or.inr ⟨by rfl, rfl⟩) (by assumption) ?_
        try simp only [Act.put, List.setIfInBounds_toArray, List.set_cons_zero, List.set_cons_succ]
        refine wpAnyH_take (i := 25) (oi := ({ dst := some 30, op := .load 3 (.tmp 29), type := 3, pos := "delta.go:57", after := #[{ on := 24, ground := .data }, { on := 20, ground := .guard }], guard := some (20, false) } : Oper)) (v := undef) rfl (by kernel_rfl) (by kernel_rfl) (by kernel_rfl) (fun _ _ _ h => h) (Or.inr ⟨by rfl, rfl⟩) (by assumption) ?_
        try simp only [Act.put, List.setIfInBounds_toArray, List.set_cons_zero, List.set_cons_succ]
        refine wpAnyH_take (i := 26) (oi := ({ dst := some 31, op := .fieldAddr 29 (.tmp 1) 1, type := 0, pos := "delta.go:57", after := #[{ on := 20, ground := .guard }], guard := some (20, false) } : Oper)) (v := undef) rfl (by kernel_rfl) (by kernel_rfl) (by kernel_rfl) (fun _ _ _ h => h) (Or.inr ⟨by rfl, rfl⟩) (by assumption) ?_
        try simp only [Act.put, List.setIfInBounds_toArray, List.set_cons_zero, List.set_cons_succ]
        refine wpAnyH_take (i := 27) (oi := ({ dst := some 32, op := .load 3 (.tmp 31), type := 3, pos := "delta.go:57", after := #[{ on := 26, ground := .data }, { on := 20, ground := .guard }], guard := some (20, false) } : Oper)) (v := undef) rfl (by kernel_rfl) (by kernel_rfl) (by kernel_rfl) (fun _ _ _ h => h) (Or.inr ⟨by rfl, rfl⟩) (by assumption) ?_
        try simp only [Act.put, List.setIfInBounds_toArray, List.set_cons_zero, List.set_cons_succ]
        refine wpAnyH_take (i := 28) (oi := ({ dst := some 33, op := .binOp .quo 3 (.tmp 30) (.tmp 32) 3, type := 3, pos := "delta.go:57", after := #[{ on := 25, ground := .data }, { on := 27, ground := .data }, { on := 20, ground := .guard }], guard := some (20, false) } : Oper)) (v := undef) rfl (by kernel_rfl) (by kernel_rfl) (by kernel_rfl) (fun _ _ _ h => h) (Or.inr ⟨by rfl, rfl⟩) (by assumption) ?_
        try simp only [Act.put, List.setIfInBounds_toArray, List.set_cons_zero, List.set_cons_succ]
        refine wpAnyH_take (i := 29) (oi := ({ dst := some 34, op := .binOp .neq 3 (.tmp 28) (.tmp 33) 3, type := 4, pos := "delta.go:57", after := #[{ on := 23, ground := .data }, { on := 28, ground := .data }, { on := 20, ground := .guard }], guard := some (20, false) } : Oper)) (v := undef) rfl (by kernel_rfl) (by kernel_rfl) (by kernel_rfl) (fun _ _ _ h => h) (Or.inr ⟨by rfl, rfl⟩) (by assumption) ?_
        try simp only [Act.put, List.setIfInBounds_toArray, List.set_cons_zero, List.set_cons_succ]
        refine wpAnyH_take (i := 30) (oi := ({ dst := some 35, op := .pick (.tmp 25) (.const (.bool true)) (.tmp 34), type := 4, pos := "delta.go:57", after := #[{ on := 20, ground := .data }, { on := 29, ground := .data }], guard := none } : Oper)) (v := ?_) rfl (by kernel_rfl) (by kernel_rfl) (by kernel_rfl) (fun _ _ _ h => h) (Or.inl ⟨by rfl, ?_⟩) (by assumption) ?_
        rotate_left
        · (intro w hSw; (try dsimp only at hSw); go_simp; try with_reducible rfl)
        try simp only [Act.put, List.setIfInBounds_toArray, List.set_cons_zero, List.set_cons_succ]
        refine wpAnyH_take (i := 31) (oi := ({ dst := some 36, op := .move (.tmp 35), type := 4, pos := "delta.go:57", after := #[{ on := 30, ground := .data }, { on := 20, ground := .chain }], guard := none } : Oper)) (v := ?_) rfl (by kernel_rfl) (by kernel_rfl) (by kernel_rfl) (fun _ _ _ h => h) (Or.inl ⟨by rfl, ?_⟩) (by assumption) ?_
        rotate_left
        · (intro w hSw; (try dsimp only at hSw); go_simp; try with_reducible rfl)
        try simp only [Act.put, List.setIfInBounds_toArray, List.set_cons_zero, List.set_cons_succ]
        refine wpAnyH_take (i := 32) (oi := ({ dst := some 37, op := .fieldAddr 29 (.tmp 1) 4, type := 0, pos := "delta.go:57", after := #[{ on := 31, ground := .guard }], guard := some (31, false) } : Oper)) (v := undef) rfl (by kernel_rfl) (by kernel_rfl) (by kernel_rfl) (fun _ _ _ h => h) (Or.inr ⟨by rfl, rfl⟩) (by assumption) ?_
        try simp only [Act.put, List.setIfInBounds_toArray, List.set_cons_zero, List.set_cons_succ]
        refine wpAnyH_take (i := 33) (oi := ({ dst := some 38, op := .load 27 (.tmp 37), type := 27, pos := "delta.go:57", after := #[{ on := 32, ground := .data }, { on := 31, ground := .guard }], guard := some (31, false) } : Oper)) (v := undef) rfl (by kernel_rfl) (by kernel_rfl) (by kernel_rfl) (fun _ _ _ h => h) (Or.inr ⟨by rfl, rfl⟩) (by assumption) ?_
        try simp only [Act.put, List.setIfInBounds_toArray, List.set_cons_zero, List.set_cons_succ]
        refine wpAnyH_take (i := 34) (oi := ({ dst := some 39, op := .call { callee := .builtin .len, args := #[.tmp 38], argTypes := #[27] }, type := 3, pos := "delta.go:57", after := #[{ on := 33, ground := .data }, { on := 31, ground := .guard }], guard := some (31, false) } : Oper)) (v := undef) rfl (by kernel_rfl) (by kernel_rfl) (by kernel_rfl) (fun _ _ _ h => h) (Or.inr ⟨by rfl, rfl⟩) (by assumption) ?_
        try simp only [Act.put, List.setIfInBounds_toArray, List.set_cons_zero, List.set_cons_succ]
        refine wpAnyH_take (i := 35) (oi := ({ dst := some 40, op := .binOp .gtr 3 (.tmp 39) (.const (.int .i64 2048)) 3, type := 4, pos := "delta.go:57", after := #[{ on := 34, ground := .data }, { on := 31, ground := .guard }], guard := some (31, false) } : Oper)) (v := undef) rfl (by kernel_rfl) (by kernel_rfl) (by kernel_rfl) (fun _ _ _ h => h) (Or.inr ⟨by rfl, rfl⟩) (by assumption) ?_
        try simp only [Act.put, List.setIfInBounds_toArray, List.set_cons_zero, List.set_cons_succ]
        refine wpAnyH_take (i := 36) (oi := ({ dst := some 41, op := .pick (.tmp 36) (.const (.bool true)) (.tmp 40), type := 4, pos := "delta.go:57", after := #[{ on := 31, ground := .data }, { on := 35, ground := .data }], guard := none } : Oper)) (v := ?_) rfl (by kernel_rfl) (by kernel_rfl) (by kernel_rfl) (fun _ _ _ h => h) (Or.inl ⟨by rfl, ?_⟩) (by assumption) ?_
        rotate_left
        · (intro w hSw; (try dsimp only at hSw); go_simp; try with_reducible rfl)
        try simp only [Act.put, List.setIfInBounds_toArray, List.set_cons_zero, List.set_cons_succ]
        refine wpAnyH_take (i := 37) (oi := ({ dst := some 42, op := .move (.tmp 41), type := 4, pos := "delta.go:57", after := #[{ on := 36, ground := .data }, { on := 31, ground := .chain }], guard := none } : Oper)) (v := ?_) rfl (by kernel_rfl) (by kernel_rfl) (by kernel_rfl) (fun _ _ _ h => h) (Or.inl ⟨by rfl, ?_⟩) (by assumption) ?_
        rotate_left
        · (intro w hSw; (try dsimp only at hSw); go_simp; try with_reducible rfl)
        try simp only [Act.put, List.setIfInBounds_toArray, List.set_cons_zero, List.set_cons_succ]
        refine wpAnyH_take (i := 38) (oi := ({ dst := some 43, op := .fieldAddr 29 (.tmp 1) 3, type := 0, pos := "delta.go:57", after := #[{ on := 37, ground := .guard }], guard := some (37, false) } : Oper)) (v := undef) rfl (by kernel_rfl) (by kernel_rfl) (by kernel_rfl) (fun _ _ _ h => h) (Or.inr ⟨by rfl, rfl⟩) (by assumption) ?_
        try simp only [Act.put, List.setIfInBounds_toArray, List.set_cons_zero, List.set_cons_succ]
        refine wpAnyH_take (i := 39) (oi := ({ dst := some 44, op := .load 26 (.tmp 43), type := 26, pos := "delta.go:57", after := #[{ on := 38, ground := .data }, { on := 37, ground := .guard }], guard := some (37, false) } : Oper)) (v := undef) rfl (by kernel_rfl) (by kernel_rfl) (by kernel_rfl) (fun _ _ _ h => h) (Or.inr ⟨by rfl, rfl⟩) (by assumption) ?_
        try simp only [Act.put, List.setIfInBounds_toArray, List.set_cons_zero, List.set_cons_succ]
        refine wpAnyH_take (i := 40) (oi := ({ dst := some 45, op := .fieldAddr 29 (.tmp 1) 0, type := 0, pos := "delta.go:57", after := #[{ on := 37, ground := .guard }], guard := some (37, false) } : Oper)) (v := undef) rfl (by kernel_rfl) (by kernel_rfl) (by kernel_rfl) (fun _ _ _ h => h) (Or.inr ⟨by rfl, rfl⟩) (by assumption) ?_
        try simp only [Act.put, List.setIfInBounds_toArray, List.set_cons_zero, List.set_cons_succ]
        refine wpAnyH_take (i := 41) (oi := ({ dst := some 46, op := .load 3 (.tmp 45), type := 3, pos := "delta.go:57", after := #[{ on := 40, ground := .data }, { on := 37, ground := .guard }], guard := some (37, false) } : Oper)) (v := undef) rfl (by kernel_rfl) (by kernel_rfl) (by kernel_rfl) (fun _ _ _ h => h) (Or.inr ⟨by rfl, rfl⟩) (by assumption) ?_
        try simp only [Act.put, List.setIfInBounds_toArray, List.set_cons_zero, List.set_cons_succ]
        refine wpAnyH_take (i := 42) (oi := ({ dst := some 47, op := .call { callee := .value (.func 76), args := #[.tmp 44, .tmp 46], argTypes := #[26, 3] }, type := 4, pos := "delta.go:57", after := #[{ on := 39, ground := .data }, { on := 41, ground := .data }, { on := 37, ground := .chain }, { on := 37, ground := .guard }], guard := some (37, false) } : Oper)) (v := undef) rfl (by kernel_rfl) (by kernel_rfl) (by kernel_rfl) (fun _ _ _ h => h) (Or.inr ⟨by rfl, rfl⟩) (by assumption) ?_
        try simp only [Act.put, List.setIfInBounds_toArray, List.set_cons_zero, List.set_cons_succ]
        refine wpAnyH_take (i := 43) (oi := ({ dst := some 48, op := .unOp .not 4 (.tmp 47), type := 4, pos := "delta.go:57", after := #[{ on := 42, ground := .data }, { on := 37, ground := .guard }], guard := some (37, false) } : Oper)) (v := undef) rfl (by kernel_rfl) (by kernel_rfl) (by kernel_rfl) (fun _ _ _ h => h) (Or.inr ⟨by rfl, rfl⟩) (by assumption) ?_
        try simp only [Act.put, List.setIfInBounds_toArray, List.set_cons_zero, List.set_cons_succ]
        refine wpAnyH_take (i := 44) (oi := ({ dst := some 49, op := .pick (.tmp 42) (.const (.bool true)) (.tmp 48), type := 4, pos := "delta.go:57", after := #[{ on := 37, ground := .data }, { on := 43, ground := .data }], guard := none } : Oper)) (v := ?_) rfl (by kernel_rfl) (by kernel_rfl) (by kernel_rfl) (fun _ _ _ h => h) (Or.inl ⟨by rfl, ?_⟩) (by assumption) ?_
        rotate_left
        · (intro w hSw; (try dsimp only at hSw); go_simp; try with_reducible rfl)
        try simp only [Act.put, List.setIfInBounds_toArray, List.set_cons_zero, List.set_cons_succ]
        refine wpAnyH_done (by kernel_rfl) ?_ _
        refine NoPanic.normal ?_
        skip
        go_wp2_with fail
        go_returns
        exact ⟨by rw [HNO.out]; rfl, k0.trans' ke⟩
      have d1 : decide (ln < 0) = false := decide_eq_false h1
      by_cases h2 : 131072 < ln
      · have d2 : decide (131072 < ln) = true := decide_eq_true h2
        have HNO := Lib.hid (show ans = false by rw [← HANS.out, HMO.out, decide_eq_false (show ¬ (0 ≤ ln ∧ ln ≤ 131072) by omega)]; simp only [Bool.false_and, Bool.and_false])
        clear HANS HMO
        refine wp_region_noPanic ?_
        refine wp_region_held_drew (S := fun w' => Blk w' b cs 29) (by kernel_rfl) ?_ (fun hHeld0 => ?_)
        · (try dsimp only); exact B0.keep ke (by simp)
        refine wpAnyH_take (i := 0) (oi := ({ dst := some 5, op := .fieldAddr 29 (.tmp 1) 0, type := 0, pos := "delta.go:57", after := #[], guard := none } : Oper)) (v := ?_) rfl (by kernel_rfl) (by kernel_rfl) (by kernel_rfl) (fun _ _ _ h => h) (Or.inl ⟨by rfl, ?_⟩) (by assumption) ?_
        rotate_left
        · (intro w hSw; (try dsimp only at hSw); go_simp; try with_reducible rfl)
        try simp only [Act.put, List.setIfInBounds_toArray, List.set_cons_zero, List.set_cons_succ]
        refine wpAnyH_take (i := 1) (oi := ({ dst := some 6, op := .load 3 (.tmp 5), type := 3, pos := "delta.go:57", after := #[{ on := 0, ground := .data }], guard := none } : Oper)) (v := ?_) rfl (by kernel_rfl) (by kernel_rfl) (by kernel_rfl) (fun _ _ _ h => h) (Or.inl ⟨by rfl, ?_⟩) (by assumption) ?_
        rotate_left
        · (intro w hSw; (try dsimp only at hSw); have q1 := HB.out.1 _ hSw; go_simp; try with_reducible rfl)
        try simp only [Act.put, List.setIfInBounds_toArray, List.set_cons_zero, List.set_cons_succ]
        refine wpAnyH_ready (rs := [2]) (by kernel_rfl) (by simp) ?_
        refine (AllReadyH.cons (o := ({ dst := some 7, op := .call { callee := .value (.func 41), args := #[.tmp 6], argTypes := #[3] }, type := 4, pos := "delta.go:57", after := #[{ on := 1, ground := .data }], guard := none } : Oper)) rfl (fun K hK => ?_) AllReadyH.nil)
        go_simp
        (refine (width_k _ _).mono ?_; rintro e w' ⟨rfl, kn⟩; have ke := ke.trans' kn; rw [hw1])
        go_wp2_with fail
        refine hK.out _ _ ?_ (fun hHeld1 => ?_)
        · (try dsimp only); exact B0.keep ke (by simp)
        clear hK K
        try simp only [Act.put, List.setIfInBounds_toArray, List.set_cons_zero, List.set_cons_succ]
        refine wpAnyH_take (i := 3) (oi := ({ dst := some 8, op := .unOp .not 4 (.tmp 7), type := 4, pos := "delta.go:57", after := #[{ on := 2, ground := .data }], guard := none } : Oper)) (v := ?_) rfl (by kernel_rfl) (by kernel_rfl) (by kernel_rfl) (fun _ _ _ h => h) (Or.inl ⟨by rfl, ?_⟩) (by assumption) ?_
        rotate_left
        · (intro w hSw; (try dsimp only at hSw); go_simp; try with_reducible rfl)
        try simp only [Act.put, List.setIfInBounds_toArray, List.set_cons_zero, List.set_cons_succ]
        refine wpAnyH_take (i := 4) (oi := ({ dst := some 9, op := .move (.tmp 8), type := 4, pos := "delta.go:57", after := #[{ on := 3, ground := .data }, { on := 2, ground := .chain }], guard := none } : Oper)) (v := ?_) rfl (by kernel_rfl) (by kernel_rfl) (by kernel_rfl) (fun _ _ _ h => h) (Or.inl ⟨by rfl, ?_⟩) (by assumption) ?_
        rotate_left
        · (intro w hSw; (try dsimp only at hSw); go_simp; try with_reducible rfl)
        try simp only [Act.put, List.setIfInBounds_toArray, List.set_cons_zero, List.set_cons_succ]
        refine wpAnyH_take (i := 5) (oi := ({ dst := some 10, op := .fieldAddr 29 (.tmp 1) 1, type := 0, pos := "delta.go:57", after := #[{ on := 4, ground := .guard }], guard := some (4, false) } : Oper)) (v := ?_) rfl (by kernel_rfl) (by kernel_rfl) (by kernel_rfl) (fun _ _ _ h => h) (Or.inl ⟨by rfl, ?_⟩) (by assumption) ?_
        rotate_left
        · (intro w hSw; (try dsimp only at hSw); go_simp; try with_reducible rfl)
        try simp only [Act.put, List.setIfInBounds_toArray, List.set_cons_zero, List.set_cons_succ]
        refine wpAnyH_take (i := 6) (oi := ({ dst := some 11, op := .load 3 (.tmp 10), type := 3, pos := "delta.go:57", after := #[{ on := 5, ground := .data }, { on := 4, ground := .guard }], guard := some (4, false) } : Oper)) (v := ?_) rfl (by kernel_rfl) (by kernel_rfl) (by kernel_rfl) (fun _ _ _ h => h) (Or.inl ⟨by rfl, ?_⟩) (by assumption) ?_
        rotate_left
        · (intro w hSw; (try dsimp only at hSw); have q1 := HB.out.2.1 _ hSw; go_simp; try with_reducible rfl)
        try simp only [Act.put, List.setIfInBounds_toArray, List.set_cons_zero, List.set_cons_succ]
        refine wpAnyH_ready (rs := [7]) (by kernel_rfl) (by simp) ?_
        refine (AllReadyH.cons (o := ({ dst := some 12, op := .call { callee := .value (.func 42), args := #[.tmp 11], argTypes := #[3] }, type := 4, pos := "delta.go:57", after := #[{ on := 6, ground := .data }, { on := 4, ground := .chain }, { on := 4, ground := .guard }], guard := some (4, false) } : Oper)) rfl (fun K hK => ?_) AllReadyH.nil)
        go_simp
        (refine (size_k _ _).mono ?_; rintro e w' ⟨rfl, kn⟩; have ke := ke.trans' kn; rw [hs1])
        go_wp2_with fail
        refine hK.out _ _ ?_ (fun hHeld2 => ?_)
        · (try dsimp only); exact B0.keep ke (by simp)
        clear hK K
        try simp only [Act.put, List.setIfInBounds_toArray, List.set_cons_zero, List.set_cons_succ]
        refine wpAnyH_take (i := 8) (oi := ({ dst := some 13, op := .unOp .not 4 (.tmp 12), type := 4, pos := "delta.go:57", after := #[{ on := 7, ground := .data }, { on := 4, ground := .guard }], guard := some (4, false) } : Oper)) (v := ?_) rfl (by kernel_rfl) (by kernel_rfl) (by kernel_rfl) (fun _ _ _ h => h) (Or.inl ⟨by rfl, ?_⟩) (by assumption) ?_
        rotate_left
        · (intro w hSw; (try dsimp only at hSw); go_simp; try with_reducible rfl)
        try simp only [Act.put, List.setIfInBounds_toArray, List.set_cons_zero, List.set_cons_succ]
        refine wpAnyH_take (i := 9) (oi := ({ dst := some 14, op := .pick (.tmp 9) (.const (.bool true)) (.tmp 13), type := 4, pos := "delta.go:57", after := #[{ on := 4, ground := .data }, { on := 8, ground := .data }], guard := none } : Oper)) (v := ?_) rfl (by kernel_rfl) (by kernel_rfl) (by kernel_rfl) (fun _ _ _ h => h) (Or.inl ⟨by rfl, ?_⟩) (by assumption) ?_
        rotate_left
        · (intro w hSw; (try dsimp only at hSw); go_simp; try with_reducible rfl)
        try simp only [Act.put, List.setIfInBounds_toArray, List.set_cons_zero, List.set_cons_succ]
        refine wpAnyH_take (i := 10) (oi := ({ dst := some 15, op := .move (.tmp 14), type := 4, pos := "delta.go:57", after := #[{ on := 9, ground := .data }, { on := 7, ground := .chain }], guard := none } : Oper)) (v := ?_) rfl (by kernel_rfl) (by kernel_rfl) (by kernel_rfl) (fun _ _ _ h => h) (Or.inl ⟨by rfl, ?_⟩) (by assumption) ?_
        rotate_left
        · (intro w hSw; (try dsimp only at hSw); go_simp; try with_reducible rfl)
        try simp only [Act.put, List.setIfInBounds_toArray, List.set_cons_zero, List.set_cons_succ]
        refine wpAnyH_take (i := 11) (oi := ({ dst := some 16, op := .fieldAddr 29 (.tmp 1) 2, type := 0, pos := "delta.go:57", after := #[{ on := 10, ground := .guard }], guard := some (10, false) } : Oper)) (v := ?_) rfl (by kernel_rfl) (by kernel_rfl) (by kernel_rfl) (fun _ _ _ h => h) (Or.inl ⟨by rfl, ?_⟩) (by assumption) ?_
        rotate_left
        · (intro w hSw; (try dsimp only at hSw); go_simp; try with_reducible rfl)
        try simp only [Act.put, List.setIfInBounds_toArray, List.set_cons_zero, List.set_cons_succ]
        refine wpAnyH_take (i := 12) (oi := ({ dst := some 17, op := .load 3 (.tmp 16), type := 3, pos := "delta.go:57", after := #[{ on := 11, ground := .data }, { on := 10, ground := .guard }], guard := some (10, false) } : Oper)) (v := ?_) rfl (by kernel_rfl) (by kernel_rfl) (by kernel_rfl) (fun _ _ _ h => h) (Or.inl ⟨by rfl, ?_⟩) (by assumption) ?_
        rotate_left
        · (intro w hSw; (try dsimp only at hSw); have q1 := HB.out.2.2.1 _ hSw; go_simp; try with_reducible rfl)
        try simp only [Act.put, List.setIfInBounds_toArray, List.set_cons_zero, List.set_cons_succ]
        refine wpAnyH_take (i := 13) (oi := ({ dst := some 18, op := .binOp .lss 3 (.tmp 17) (.const (.int .i64 0)) 3, type := 4, pos := "delta.go:57", after := #[{ on := 12, ground := .data }, { on := 10, ground := .guard }], guard := some (10, false) } : Oper)) (v := ?_) rfl (by kernel_rfl) (by kernel_rfl) (by kernel_rfl) (fun _ _ _ h => h) (Or.inl ⟨by rfl, ?_⟩) (by assumption) ?_
        rotate_left
        · (intro w hSw; (try dsimp only at hSw); go_simp; try with_reducible rfl)
        try simp only [Act.put, List.setIfInBounds_toArray, List.set_cons_zero, List.set_cons_succ]
        refine wpAnyH_take (i := 14) (oi := ({ dst := some 19, op := .pick (.tmp 15) (.const (.bool true)) (.tmp 18), type := 4, pos := "delta.go:57", after := #[{ on := 10, ground := .data }, { on := 13, ground := .data }], guard := none } : Oper)) (v := ?_) rfl (by kernel_rfl) (by kernel_rfl) (by kernel_rfl) (fun _ _ _ h => h) (Or.inl ⟨by rfl, ?_⟩) (by assumption) ?_
        rotate_left
        · (intro w hSw; (try dsimp only at hSw); go_simp; try with_reducible rfl)
        try simp only [Act.put, List.setIfInBounds_toArray, List.set_cons_zero, List.set_cons_succ]
        refine wpAnyH_take (i := 15) (oi := ({ dst := some 20, op := .move (.tmp 19), type := 4, pos := "delta.go:57", after := #[{ on := 14, ground := .data }, { on := 10, ground := .chain }], guard := none } : Oper)) (v := ?_) rfl (by kernel_rfl) (by kernel_rfl) (by kernel_rfl) (fun _ _ _ h => h) (Or.inl ⟨by rfl, ?_⟩) (by assumption) ?_
        rotate_left
        · (intro w hSw; (try dsimp only at hSw); go_simp; try with_reducible rfl)
        try simp only [Act.put, List.setIfInBounds_toArray, List.set_cons_zero, List.set_cons_succ]
        refine wpAnyH_take (i := 16) (oi := ({ dst := some 21, op := .fieldAddr 29 (.tmp 1) 2, type := 0, pos := "delta.go:57", after := #[{ on := 15, ground := .guard }], guard := some (15, false) } : Oper)) (v := ?_) rfl (by kernel_rfl) (by kernel_rfl) (by kernel_rfl) (fun _ _ _ h => h) (Or.inl ⟨by rfl, ?_⟩) (by assumption) ?_
        rotate_left
        · (intro w hSw; (try dsimp only at hSw); go_simp; try with_reducible rfl)
        try simp only [Act.put, List.setIfInBounds_toArray, List.set_cons_zero, List.set_cons_succ]
        refine wpAnyH_take (i := 17) (oi := ({ dst := some 22, op := .load 3 (.tmp 21), type := 3, pos := "delta.go:57", after := #[{ on := 16, ground := .data }, { on := 15, ground := .guard }], guard := some (15, false) } : Oper)) (v := ?_) rfl (by kernel_rfl) (by kernel_rfl) (by kernel_rfl) (fun _ _ _ h => h) (Or.inl ⟨by rfl, ?_⟩) (by assumption) ?_
        rotate_left
        · (intro w hSw; (try dsimp only at hSw); have q1 := HB.out.2.2.1 _ hSw; go_simp; try with_reducible rfl)
        try simp only [Act.put, List.setIfInBounds_toArray, List.set_cons_zero, List.set_cons_succ]
        refine wpAnyH_take (i := 18) (oi := ({ dst := some 23, op := .binOp .gtr 3 (.tmp 22) (.const (.int .i64 131072)) 3, type := 4, pos := "delta.go:57", after := #[{ on := 17, ground := .data }, { on := 15, ground := .guard }], guard := some (15, false) } : Oper)) (v := ?_) rfl (by kernel_rfl) (by kernel_rfl) (by kernel_rfl) (fun _ _ _ h => h) (Or.inl ⟨by rfl, ?_⟩) (by assumption) ?_
        rotate_left
        · (intro w hSw; (try dsimp only at hSw); go_simp; try with_reducible rfl)
        try simp only [Act.put, List.setIfInBounds_toArray, List.set_cons_zero, List.set_cons_succ]
        refine wpAnyH_take (i := 19) (oi := ({ dst := some 24, op := .pick (.tmp 20) (.const (.bool true)) (.tmp 23), type := 4, pos := "delta.go:57", after := #[{ on := 15, ground := .data }, { on := 18, ground := .data }], guard := none } : Oper)) (v := ?_) rfl (by kernel_rfl) (by kernel_rfl) (by kernel_rfl) (fun _ _ _ h => h) (Or.inl ⟨by rfl, ?_⟩) (by assumption) ?_
        rotate_left
        · (intro w hSw; (try dsimp only at hSw); go_simp; try with_reducible rfl)
        try simp only [Act.put, List.setIfInBounds_toArray, List.set_cons_zero, List.set_cons_succ]
        refine wpAnyH_take (i := 20) (oi := ({ dst := some 25, op := .move (.tmp 24), type := 4, pos := "delta.go:57", after := #[{ on := 19, ground := .data }, { on := 15, ground := .chain }], guard := none } : Oper)) (v := ?_) rfl (by kernel_rfl) (by kernel_rfl) (by kernel_rfl) (fun _ _ _ h => h) (Or.inl ⟨by rfl, ?_⟩) (by assumption) ?_
        rotate_left
        · (intro w hSw; (try dsimp only at hSw); go_simp; try with_reducible rfl)
        try simp only [Act.put, List.setIfInBounds_toArray, List.set_cons_zero, List.set_cons_succ]
        refine wpAnyH_take (i := 21) (oi := ({ dst := some 26, op := .fieldAddr 29 (.tmp 1) 4, type := 0, pos := "delta.go:57", after := #[{ on := 20, ground := .guard }], guard := some (20, false) } : Oper)) (v := undef) rfl (by kernel_rfl) (by kernel_rfl) (by kernel_rfl) (fun _ _ _ h => h) (Or.inr ⟨by rfl, rfl⟩) (by assumption) ?_
        try simp only [Act.put, List.setIfInBounds_toArray, List.set_cons_zero, List.set_cons_succ]
        refine wpAnyH_take (i := 22) (oi := ({ dst := some 27, op := .load 27 (.tmp 26), type := 27, pos := "delta.go:57", after := #[{ on := 21, ground := .data }, { on := 20, ground := .guard }], guard := some (20, false) } : Oper)) (v := undef) rfl (by kernel_rfl) (by kernel_rfl) (by kernel_rfl) (fun _ _ _ h => h) (Or.inr ⟨by rfl, rfl⟩) (by assumption) ?_
        try simp only [Act.put, List.setIfInBounds_toArray, List.set_cons_zero, List.set_cons_succ]
        refine wpAnyH_take (i := 23) (oi := ({ dst := some 28, op := .call { callee := .builtin .len, args := #[.tmp 27], argTypes := #[27] }, type := 3, pos := "delta.go:57", after := #[{ on := 22, ground := .data }, { on := 20, ground := .guard }], guard := some (20, false) } : Oper)) (v := undef) rfl (by kernel_rfl) (by kernel_rfl) (by kernel_rfl) (fun _ _ _ h => h) (Or.inr ⟨by rfl, rfl⟩) (by assumption) ?_
        try simp only [Act.put, List.setIfInBounds_toArray, List.set_cons_zero, List.set_cons_succ]
        refine wpAnyH_take (i := 24) (oi := ({ dst := some 29, op := .fieldAddr 29 (.tmp 1) 2, type := 0, pos := "delta.go:57", after := #[{ on := 20, ground := .guard }], guard := some (20, false) } : Oper)) (v := undef) rfl (by kernel_rfl) (by kernel_rfl) (by kernel_rfl) (fun _ _ _ h => h) (Or.inr ⟨by rfl, rfl⟩) (by assumption) ?_
        try simp only [Act.put, List.setIfInBounds_toArray, List.set_cons_zero, List.set_cons_succ]
        refine wpAnyH_take (i := 25) (oi := ({ dst := some 30, op := .load 3 (.tmp 29), type := 3, pos := "delta.go:57", after := #[{ on := 24, ground := .data }, { on := 20, ground := .guard }], guard := some (20, false) } : Oper)) (v := undef) rfl (by kernel_rfl) (by kernel_rfl) (by kernel_rfl) (fun _ _ _ h => h) (Or.inr ⟨by rfl, rfl⟩) (by assumption) ?_
        try simp only [Act.put, List.setIfInBounds_toArray, List.set_cons_zero, List.set_cons_succ]
        refine wpAnyH_take (i := 26) (oi := ({ dst := some 31, op := .fieldAddr 29 (.tmp 1) 1, type := 0, pos := "delta.go:57", after := #[{ on := 20, ground := .guard }], guard := some (20, false) } : Oper)) (v := undef) rfl (by kernel_rfl) (by kernel_rfl) (by kernel_rfl) (fun _ _ _ h => h) (Or.inr ⟨by rfl, rfl⟩) (by assumption) ?_
        try simp only [Act.put, List.setIfInBounds_toArray, List.set_cons_zero, List.set_cons_succ]
        refine wpAnyH_take (i := 27) (oi := ({ dst := some 32, op := .load 3 (.tmp 31), type := 3, pos := "delta.go:57", after := #[{ on := 26, ground := .data }, { on := 20, ground := .guard }], guard := some (20, false) } : Oper)) (v := undef) rfl (by kernel_rfl) (by kernel_rfl) (by kernel_rfl) (fun _ _ _ h => h) (Or.inr ⟨by rfl, rfl⟩) (by assumption) ?_
        try simp only [Act.put, List.setIfInBounds_toArray, List.set_cons_zero, List.set_cons_succ]
        refine wpAnyH_take (i := 28) (oi := ({ dst := some 33, op := .binOp .quo 3 (.tmp 30) (.tmp 32) 3, type := 3, pos := "delta.go:57", after := #[{ on := 25, ground := .data }, { on := 27, ground := .data }, { on := 20, ground := .guard }], guard := some (20, false) } : Oper)) (v := undef) rfl (by kernel_rfl) (by kernel_rfl) (by kernel_rfl) (fun _ _ _ h => h) (Or.inr ⟨by rfl, rfl⟩) (by assumption) ?_
        try simp only [Act.put, List.setIfInBounds_toArray, List.set_cons_zero, List.set_cons_succ]
        refine wpAnyH_take (i := 29) (oi := ({ dst := some 34, op := .binOp .neq 3 (.tmp 28) (.tmp 33) 3, type := 4, pos := "delta.go:57", after := #[{ on := 23, ground := .data }, { on := 28, ground := .data }, { on := 20, ground := .guard }], guard := some (20, false) } : Oper)) (v := undef) rfl (by kernel_rfl) (by kernel_rfl) (by kernel_rfl) (fun _ _ _ h => h) (Or.inr ⟨by rfl, rfl⟩) (by assumption) ?_
        try simp only [Act.put, List.setIfInBounds_toArray, List.set_cons_zero, List.set_cons_succ]
        refine wpAnyH_take (i := 30) (oi := ({ dst := some 35, op := .pick (.tmp 25) (.const (.bool true)) (.tmp 34), type := 4, pos := "delta.go:57", after := #[{ on := 20, ground := .data }, { on := 29, ground := .data }], guard := none } : Oper)) (v := ?_) rfl (by kernel_rfl) (by kernel_rfl) (by kernel_rfl) (fun _ _ _ h => h) (Or.inl ⟨by rfl, ?_⟩) (by assumption) ?_
        rotate_left
        · (intro w hSw; (try dsimp only at hSw); go_simp; try with_reducible rfl)
        try simp only [Act.put, List.setIfInBounds_toArray, List.set_cons_zero, List.set_cons_succ]
        refine wpAnyH_take (i := 31) (oi := ({ dst := some 36, op := .move (.tmp 35), type := 4, pos := "delta.go:57", after := #[{ on := 30, ground := .data }, { on := 20, ground := .chain }], guard := none } : Oper)) (v := ?_) rfl (by kernel_rfl) (by kernel_rfl) (by kernel_rfl) (fun _ _ _ h => h) (Or.inl ⟨by rfl, ?_⟩) (by assumption) ?_
        rotate_left
        · (intro w hSw; (try dsimp only at hSw); go_simp; try with_reducible rfl)
        try simp only [Act.put, List.setIfInBounds_toArray, List.set_cons_zero, List.set_cons_succ]
        refine wpAnyH_take (i := 32) (oi := ({ dst := some 37, op := .fieldAddr 29 (.tmp 1) 4, type := 0, pos := "delta.go:57", after := #[{ on := 31, ground := .guard }], guard := some (31, false) } : Oper)) (v := undef) rfl (by kernel_rfl) (by kernel_rfl) (by kernel_rfl) (fun _ _ _ h => h) (Or.inr ⟨by rfl, rfl⟩) (by assumption) ?_
        try simp only [Act.put, List.setIfInBounds_toArray, List.set_cons_zero, List.set_cons_succ]
        refine wpAnyH_take (i := 33) (oi := ({ dst := some 38, op := .load 27 (.tmp 37), type := 27, pos := "delta.go:57", after := #[{ on := 32, ground := .data }, { on := 31, ground := .guard }], guard := some (31, false) } : Oper)) (v := undef) rfl (by kernel_rfl) (by kernel_rfl) (by kernel_rfl) (fun _ _ _ h => h) (Or.inr ⟨by rfl, rfl⟩) (by assumption) ?_
        try simp only [Act.put, List.setIfInBounds_toArray, List.set_cons_zero, List.set_cons_succ]
        refine wpAnyH_take (i := 34) (oi := ({ dst := some 39, op := .call { callee := .builtin .len, args := #[.tmp 38], argTypes := #[27] }, type := 3, pos := "delta.go:57", after := #[{ on := 33, ground := .data }, { on := 31, ground := .guard }], guard := some (31, false) } : Oper)) (v := undef) rfl (by kernel_rfl) (by kernel_rfl) (by kernel_rfl) (fun _ _ _ h => h) (Or.inr ⟨by rfl, rfl⟩) (by assumption) ?_
        try simp only [Act.put, List.setIfInBounds_toArray, List.set_cons_zero, List.set_cons_succ]
        refine wpAnyH_take (i := 35) (oi := ({ dst := some 40, op := .binOp .gtr 3 (.tmp 39) (.const (.int .i64 2048)) 3, type := 4, pos := "delta.go:57", after := #[{ on := 34, ground := .data }, { on := 31, ground := .guard }], guard := some (31, false) } : Oper)) (v := undef) rfl (by kernel_rfl) (by kernel_rfl) (by kernel_rfl) (fun _ _ _ h => h) (Or.inr ⟨by rfl, rfl⟩) (by assumption) ?_
        try simp only [Act.put, List.setIfInBounds_toArray, List.set_cons_zero, List.set_cons_succ]
        refine wpAnyH_take (i := 36) (oi := ({ dst := some 41, op := .pick (.tmp 36) (.const (.bool true)) (.tmp 40), type := 4, pos := "delta.go:57", after := #[{ on := 31, ground := .data }, { on := 35, ground := .data }], guard := none } : Oper)) (v := ?_) rfl (by kernel_rfl) (by kernel_rfl) (by kernel_rfl) (fun _ _ _ h => h) (Or.inl ⟨by rfl, ?_⟩) (by assumption) ?_
        rotate_left
        · (intro w hSw; (try dsimp only at hSw); go_simp; try with_reducible rfl)
        try simp only [Act.put, List.setIfInBounds_toArray, List.set_cons_zero, List.set_cons_succ]
        refine wpAnyH_take (i := 37) (oi := ({ dst := some 42, op := .move (.tmp 41), type := 4, pos := "delta.go:57", after := #[{ on := 36, ground := .data }, { on := 31, ground := .chain }], guard := none } : Oper)) (v := ?_) rfl (by kernel_rfl) (by kernel_rfl) (by kernel_rfl) (fun _ _ _ h => h) (Or.inl ⟨by rfl, ?_⟩) (by assumption) ?_
        rotate_left
        · (intro w hSw; (try dsimp only at hSw); go_simp; try with_reducible rfl)
        try simp only [Act.put, List.setIfInBounds_toArray, List.set_cons_zero, List.set_cons_succ]
        refine wpAnyH_take (i := 38) (oi := ({ dst := some 43, op := .fieldAddr 29 (.tmp 1) 3, type := 0, pos := "delta.go:57", after := #[{ on := 37, ground := .guard }], guard := some (37, false) } : Oper)) (v := undef) rfl (by kernel_rfl) (by kernel_rfl) (by kernel_rfl) (fun _ _ _ h => h) (Or.inr ⟨by rfl, rfl⟩) (by assumption) ?_
        try simp only [Act.put, List.setIfInBounds_toArray, List.set_cons_zero, List.set_cons_succ]
        refine wpAnyH_take (i := 39) (oi := ({ dst := some 44, op := .load 26 (.tmp 43), type := 26, pos := "delta.go:57", after := #[{ on := 38, ground := .data }, { on := 37, ground := .guard }], guard := some (37, false) } : Oper)) (v := undef) rfl (by kernel_rfl) (by kernel_rfl) (by kernel_rfl) (fun _ _ _ h => h) (Or.inr ⟨by rfl, rfl⟩) (by assumption) ?_
        try simp only [Act.put, List.setIfInBounds_toArray, List.set_cons_zero, List.set_cons_succ]
        refine wpAnyH_take (i := 40) (oi := ({ dst := some 45, op := .fieldAddr 29 (.tmp 1) 0, type := 0, pos := "delta.go:57", after := #[{ on := 37, ground := .guard }], guard := some (37, false) } : Oper)) (v := undef) rfl (by kernel_rfl) (by kernel_rfl) (by kernel_rfl) (fun _ _ _ h => h) (Or.inr ⟨by rfl, rfl⟩) (by assumption) ?_
        try simp only [Act.put, List.setIfInBounds_toArray, List.set_cons_zero, List.set_cons_succ]
        refine wpAnyH_take (i := 41) (oi := ({ dst := some 46, op := .load 3 (.tmp 45), type := 3, pos := "delta.go:57", after := #[{ on := 40, ground := .data }, { on := 37, ground := .guard }], guard := some (37, false) } : Oper)) (v := undef) rfl (by kernel_rfl) (by kernel_rfl) (by kernel_rfl) (fun _ _ _ h => h) (Or.inr ⟨by rfl, rfl⟩) (by assumption) ?_
        try simp only [Act.put, List.setIfInBounds_toArray, List.set_cons_zero, List.set_cons_succ]
        refine wpAnyH_take (i := 42) (oi := ({ dst := some 47, op := .call { callee := .value (.func 76), args := #[.tmp 44, .tmp 46], argTypes := #[26, 3] }, type := 4, pos := "delta.go:57", after := #[{ on := 39, ground := .data }, { on := 41, ground := .data }, { on := 37, ground := .chain }, { on := 37, ground := .guard }], guard := some (37, false) } : Oper)) (v := undef) rfl (by kernel_rfl) (by kernel_rfl) (by kernel_rfl) (fun _ _ _ h => h) (Or.inr ⟨by rfl, rfl⟩) (by assumption) ?_
        try simp only [Act.put, List.setIfInBounds_toArray, List.set_cons_zero, List.set_cons_succ]
        refine wpAnyH_take (i := 43) (oi := ({ dst := some 48, op := .unOp .not 4 (.tmp 47), type := 4, pos := "delta.go:57", after := #[{ on := 42, ground := .data }, { on := 37, ground := .guard }], guard := some (37, false) } : Oper)) (v := undef) rfl (by kernel_rfl) (by kernel_rfl) (by kernel_rfl) (fun _ _ _ h => h) (Or.inr ⟨by rfl, rfl⟩) (by assumption) ?_
        try simp only [Act.put, List.setIfInBounds_toArray, List.set_cons_zero, List.set_cons_succ]
        refine wpAnyH_take (i := 44) (oi := ({ dst := some 49, op := .pick (.tmp 42) (.const (.bool true)) (.tmp 48), type := 4, pos := "delta.go:57", after := #[{ on := 37, ground := .data }, { on := 43, ground := .data }], guard := none } : Oper)) (v := ?_) rfl (by kernel_rfl) (by kernel_rfl) (by kernel_rfl) (fun _ _ _ h => h) (Or.inl ⟨by rfl, ?_⟩) (by assumption) ?_
        rotate_left
        · (intro w hSw; (try dsimp only at hSw); go_simp; try with_reducible rfl)
        try simp only [Act.put, List.setIfInBounds_toArray, List.set_cons_zero, List.set_cons_succ]
        refine wpAnyH_done (by kernel_rfl) ?_ _
        refine NoPanic.normal ?_
        skip
        go_wp2_with fail
        go_returns
        exact ⟨by rw [HNO.out]; rfl, k0.trans' ke⟩
      have d2 : decide (131072 < ln) = false := decide_eq_false h2
      obtain ⟨Q, hQ⟩ : ∃ Q : Nat, ln / sz = Q := ⟨(ln / sz).toNat, by have := Int.ediv_nonneg (show 0 ≤ ln by omega) (show 0 ≤ sz by omega); omega⟩
      have hQ1 : Q ≤ 131072 := by have := Int.ediv_le_self sz (show 0 ≤ ln by omega); omega
      have hqd : ln.tdiv sz = Q := by rw [tdiv_of (by omega)]; exact hQ
      have hqw : IntKind.i64.wrap (Q : Int) = Q := IntWalk.i64_in _ (by omega)
      have HQ := Lib.hid hQ
      clear hQ
      by_cases h3 : n = Q
      case neg =>
        have d3 : ((n : Int) == (Q : Int)) = false := by simp; omega
        have d5 : ((n : Int) != (Q : Int)) = true := by simp; omega
        have d3' : ¬ (n : Int) = Q := by omega
        have HNO := Lib.hid (show ans = false by rw [← HANS.out, HMO.out, HL.out, HQ.out, decide_eq_false d3']; simp only [Bool.false_and, Bool.and_false])
        clear HANS HMO
        refine wp_region_noPanic ?_
        refine wp_region_held_drew (S := fun w' => Blk w' b cs 29) (by kernel_rfl) ?_ (fun hHeld0 => ?_)
        · (try dsimp only); exact B0.keep ke (by simp)
        refine wpAnyH_take (i := 0) (oi := ({ dst := some 5, op := .fieldAddr 29 (.tmp 1) 0, type := 0, pos := "delta.go:57", after := #[], guard := none } : Oper)) (v := ?_) rfl (by kernel_rfl) (by kernel_rfl) (by kernel_rfl) (fun _ _ _ h => h) (Or.inl ⟨by rfl, ?_⟩) (by assumption) ?_
        rotate_left
        · (intro w hSw; (try dsimp only at hSw); go_simp; try with_reducible rfl)
        try simp only [Act.put, List.setIfInBounds_toArray, List.set_cons_zero, List.set_cons_succ]
        refine wpAnyH_take (i := 1) (oi := ({ dst := some 6, op := .load 3 (.tmp 5), type := 3, pos := "delta.go:57", after := #[{ on := 0, ground := .data }], guard := none } : Oper)) (v := ?_) rfl (by kernel_rfl) (by kernel_rfl) (by kernel_rfl) (fun _ _ _ h => h) (Or.inl ⟨by rfl, ?_⟩) (by assumption) ?_
        rotate_left
        · (intro w hSw; (try dsimp only at hSw); have q1 := HB.out.1 _ hSw; go_simp; try with_reducible rfl)
        try simp only [Act.put, List.setIfInBounds_toArray, List.set_cons_zero, List.set_cons_succ]
        refine wpAnyH_ready (rs := [2]) (by kernel_rfl) (by simp) ?_
        refine (AllReadyH.cons (o := ({ dst := some 7, op := .call { callee := .value (.func 41), args := #[.tmp 6], argTypes := #[3] }, type := 4, pos := "delta.go:57", after := #[{ on := 1, ground := .data }], guard := none } : Oper)) rfl (fun K hK => ?_) AllReadyH.nil)
        go_simp
        (refine (width_k _ _).mono ?_; rintro e w' ⟨rfl, kn⟩; have ke := ke.trans' kn; rw [hw1])
        go_wp2_with fail
        refine hK.out _ _ ?_ (fun hHeld1 => ?_)
        · (try dsimp only); exact B0.keep ke (by simp)
        clear hK K
        try simp only [Act.put, List.setIfInBounds_toArray, List.set_cons_zero, List.set_cons_succ]
        refine wpAnyH_take (i := 3) (oi := ({ dst := some 8, op := .unOp .not 4 (.tmp 7), type := 4, pos := "delta.go:57", after := #[{ on := 2, ground := .data }], guard := none } : Oper)) (v := ?_) rfl (by kernel_rfl) (by kernel_rfl) (by kernel_rfl) (fun _ _ _ h => h) (Or.inl ⟨by rfl, ?_⟩) (by assumption) ?_
        rotate_left
        · (intro w hSw; (try dsimp only at hSw); go_simp; try with_reducible rfl)
        try simp only [Act.put, List.setIfInBounds_toArray, List.set_cons_zero, List.set_cons_succ]
        refine wpAnyH_take (i := 4) (oi := ({ dst := some 9, op := .move (.tmp 8), type := 4, pos := "delta.go:57", after := #[{ on := 3, ground := .data }, { on := 2, ground := .chain }], guard := none } : Oper)) (v := ?_) rfl (by kernel_rfl) (by kernel_rfl) (by kernel_rfl) (fun _ _ _ h => h) (Or.inl ⟨by rfl, ?_⟩) (by assumption) ?_
        rotate_left
        · (intro w hSw; (try dsimp only at hSw); go_simp; try with_reducible rfl)
        try simp only [Act.put, List.setIfInBounds_toArray, List.set_cons_zero, List.set_cons_succ]
        refine wpAnyH_take (i := 5) (oi := ({ dst := some 10, op := .fieldAddr 29 (.tmp 1) 1, type := 0, pos := "delta.go:57", after := #[{ on := 4, ground := .guard }], guard := some (4, false) } : Oper)) (v := ?_) rfl (by kernel_rfl) (by kernel_rfl) (by kernel_rfl) (fun _ _ _ h => h) (Or.inl ⟨by rfl, ?_⟩) (by assumption) ?_
        rotate_left
        · (intro w hSw; (try dsimp only at hSw); go_simp; try with_reducible rfl)
        try simp only [Act.put, List.setIfInBounds_toArray, List.set_cons_zero, List.set_cons_succ]
        refine wpAnyH_take (i := 6) (oi := ({ dst := some 11, op := .load 3 (.tmp 10), type := 3, pos := "delta.go:57", after := #[{ on := 5, ground := .data }, { on := 4, ground := .guard }], guard := some (4, false) } : Oper)) (v := ?_) rfl (by kernel_rfl) (by kernel_rfl) (by kernel_rfl) (fun _ _ _ h => h) (Or.inl ⟨by rfl, ?_⟩) (by assumption) ?_
        rotate_left
        · (intro w hSw; (try dsimp only at hSw); have q1 := HB.out.2.1 _ hSw; go_simp; try with_reducible rfl)
        try simp only [Act.put, List.setIfInBounds_toArray, List.set_cons_zero, List.set_cons_succ]
        refine wpAnyH_ready (rs := [7]) (by kernel_rfl) (by simp) ?_
        refine (AllReadyH.cons (o := ({ dst := some 12, op := .call { callee := .value (.func 42), args := #[.tmp 11], argTypes := #[3] }, type := 4, pos := "delta.go:57", after := #[{ on := 6, ground := .data }, { on := 4, ground := .chain }, { on := 4, ground := .guard }], guard := some (4, false) } : Oper)) rfl (fun K hK => ?_) AllReadyH.nil)
        go_simp
        (refine (size_k _ _).mono ?_; rintro e w' ⟨rfl, kn⟩; have ke := ke.trans' kn; rw [hs1])
        go_wp2_with fail
        refine hK.out _ _ ?_ (fun hHeld2 => ?_)
        · (try dsimp only); exact B0.keep ke (by simp)
        clear hK K
        try simp only [Act.put, List.setIfInBounds_toArray, List.set_cons_zero, List.set_cons_succ]
        refine wpAnyH_take (i := 8) (oi := ({ dst := some 13, op := .unOp .not 4 (.tmp 12), type := 4, pos := "delta.go:57", after := #[{ on := 7, ground := .data }, { on := 4, ground := .guard }], guard := some (4, false) } : Oper)) (v := ?_) rfl (by kernel_rfl) (by kernel_rfl) (by kernel_rfl) (fun _ _ _ h => h) (Or.inl ⟨by rfl, ?_⟩) (by assumption) ?_
        rotate_left
        · (intro w hSw; (try dsimp only at hSw); go_simp; try with_reducible rfl)
        try simp only [Act.put, List.setIfInBounds_toArray, List.set_cons_zero, List.set_cons_succ]
        refine wpAnyH_take (i := 9) (oi := ({ dst := some 14, op := .pick (.tmp 9) (.const (.bool true)) (.tmp 13), type := 4, pos := "delta.go:57", after := #[{ on := 4, ground := .data }, { on := 8, ground := .data }], guard := none } : Oper)) (v := ?_) rfl (by kernel_rfl) (by kernel_rfl) (by kernel_rfl) (fun _ _ _ h => h) (Or.inl ⟨by rfl, ?_⟩) (by assumption) ?_
        rotate_left
        · (intro w hSw; (try dsimp only at hSw); go_simp; try with_reducible rfl)
        try simp only [Act.put, List.setIfInBounds_toArray, List.set_cons_zero, List.set_cons_succ]
        refine wpAnyH_take (i := 10) (oi := ({ dst := some 15, op := .move (.tmp 14), type := 4, pos := "delta.go:57", after := #[{ on := 9, ground := .data }, { on := 7, ground := .chain }], guard := none } : Oper)) (v := ?_) rfl (by kernel_rfl) (by kernel_rfl) (by kernel_rfl) (fun _ _ _ h => h) (Or.inl ⟨by rfl, ?_⟩) (by assumption) ?_
        rotate_left
        · (intro w hSw; (try dsimp only at hSw); go_simp; try with_reducible rfl)
        try simp only [Act.put, List.setIfInBounds_toArray, List.set_cons_zero, List.set_cons_succ]
        refine wpAnyH_take (i := 11) (oi := ({ dst := some 16, op := .fieldAddr 29 (.tmp 1) 2, type := 0, pos := "delta.go:57", after := #[{ on := 10, ground := .guard }], guard := some (10, false) } : Oper)) (v := ?_) rfl (by kernel_rfl) (by kernel_rfl) (by kernel_rfl) (fun _ _ _ h => h) (Or.inl ⟨by rfl, ?_⟩) (by assumption) ?_
        rotate_left
        · (intro w hSw; (try dsimp only at hSw); go_simp; try with_reducible rfl)
        try simp only [Act.put, List.setIfInBounds_toArray, List.set_cons_zero, List.set_cons_succ]
        refine wpAnyH_take (i := 12) (oi := ({ dst := some 17, op := .load 3 (.tmp 16), type := 3, pos := "delta.go:57", after := #[{ on := 11, ground := .data }, { on := 10, ground := .guard }], guard := some (10, false) } : Oper)) (v := ?_) rfl (by kernel_rfl) (by kernel_rfl) (by kernel_rfl) (fun _ _ _ h => h) (Or.inl ⟨by rfl, ?_⟩) (by assumption) ?_
        rotate_left
        · (intro w hSw; (try dsimp only at hSw); have q1 := HB.out.2.2.1 _ hSw; go_simp; try with_reducible rfl)
        try simp only [Act.put, List.setIfInBounds_toArray, List.set_cons_zero, List.set_cons_succ]
        refine wpAnyH_take (i := 13) (oi := ({ dst := some 18, op := .binOp .lss 3 (.tmp 17) (.const (.int .i64 0)) 3, type := 4, pos := "delta.go:57", after := #[{ on := 12, ground := .data }, { on := 10, ground := .guard }], guard := some (10, false) } : Oper)) (v := ?_) rfl (by kernel_rfl) (by kernel_rfl) (by kernel_rfl) (fun _ _ _ h => h) (Or.inl ⟨by rfl, ?_⟩) (by assumption) ?_
        rotate_left
        · (intro w hSw; (try dsimp only at hSw); go_simp; try with_reducible rfl)
        try simp only [Act.put, List.setIfInBounds_toArray, List.set_cons_zero, List.set_cons_succ]
        refine wpAnyH_take (i := 14) (oi := ({ dst := some 19, op := .pick (.tmp 15) (.const (.bool true)) (.tmp 18), type := 4, pos := "delta.go:57", after := #[{ on := 10, ground := .data }, { on := 13, ground := .data }], guard := none } : Oper)) (v := ?_) rfl (by kernel_rfl) (by kernel_rfl) (by kernel_rfl) (fun _ _ _ h => h) (Or.inl ⟨by rfl, ?_⟩) (by assumption) ?_
        rotate_left
        · (intro w hSw; (try dsimp only at hSw); go_simp; try with_reducible rfl)
        try simp only [Act.put, List.setIfInBounds_toArray, List.set_cons_zero, List.set_cons_succ]
        refine wpAnyH_take (i := 15) (oi := ({ dst := some 20, op := .move (.tmp 19), type := 4, pos := "delta.go:57", after := #[{ on := 14, ground := .data }, { on := 10, ground := .chain }], guard := none } : Oper)) (v := ?_) rfl (by kernel_rfl) (by kernel_rfl) (by kernel_rfl) (fun _ _ _ h => h) (Or.inl ⟨by rfl, ?_⟩) (by assumption) ?_
        rotate_left
        · (intro w hSw; (try dsimp only at hSw); go_simp; try with_reducible rfl)
        try simp only [Act.put, List.setIfInBounds_toArray, List.set_cons_zero, List.set_cons_succ]
        refine wpAnyH_take (i := 16) (oi := ({ dst := some 21, op := .fieldAddr 29 (.tmp 1) 2, type := 0, pos := "delta.go:57", after := #[{ on := 15, ground := .guard }], guard := some (15, false) } : Oper)) (v := ?_) rfl (by kernel_rfl) (by kernel_rfl) (by kernel_rfl) (fun _ _ _ h => h) (Or.inl ⟨by rfl, ?_⟩) (by assumption) ?_
        rotate_left
        · (intro w hSw; (try dsimp only at hSw); go_simp; try with_reducible rfl)
        try simp only [Act.put, List.setIfInBounds_toArray, List.set_cons_zero, List.set_cons_succ]
        refine wpAnyH_take (i := 17) (oi := ({ dst := some 22, op := .load 3 (.tmp 21), type := 3, pos := "delta.go:57", after := #[{ on := 16, ground := .data }, { on := 15, ground := .guard }], guard := some (15, false) } : Oper)) (v := ?_) rfl (by kernel_rfl) (by kernel_rfl) (by kernel_rfl) (fun _ _ _ h => h) (Or.inl ⟨by rfl, ?_⟩) (by assumption) ?_
        rotate_left
        · (intro w hSw; (try dsimp only at hSw); have q1 := HB.out.2.2.1 _ hSw; go_simp; try with_reducible rfl)
        try simp only [Act.put, List.setIfInBounds_toArray, List.set_cons_zero, List.set_cons_succ]
        refine wpAnyH_take (i := 18) (oi := ({ dst := some 23, op := .binOp .gtr 3 (.tmp 22) (.const (.int .i64 131072)) 3, type := 4, pos := "delta.go:57", after := #[{ on := 17, ground := .data }, { on := 15, ground := .guard }], guard := some (15, false) } : Oper)) (v := ?_) rfl (by kernel_rfl) (by kernel_rfl) (by kernel_rfl) (fun _ _ _ h => h) (Or.inl ⟨by rfl, ?_⟩) (by assumption) ?_
        rotate_left
        · (intro w hSw; (try dsimp only at hSw); go_simp; try with_reducible rfl)
        try simp only [Act.put, List.setIfInBounds_toArray, List.set_cons_zero, List.set_cons_succ]
        refine wpAnyH_take (i := 19) (oi := ({ dst := some 24, op := .pick (.tmp 20) (.const (.bool true)) (.tmp 23), type := 4, pos := "delta.go:57", after := #[{ on := 15, ground := .data }, { on := 18, ground := .data }], guard := none } : Oper)) (v := ?_) rfl (by kernel_rfl) (by kernel_rfl) (by kernel_rfl) (fun _ _ _ h => h) (Or.inl ⟨by rfl, ?_⟩) (by assumption) ?_
        rotate_left
        · (intro w hSw; (try dsimp only at hSw); go_simp; try with_reducible rfl)
        try simp only [Act.put, List.setIfInBounds_toArray, List.set_cons_zero, List.set_cons_succ]
        refine wpAnyH_take (i := 20) (oi := ({ dst := some 25, op := .move (.tmp 24), type := 4, pos := "delta.go:57", after := #[{ on := 19, ground := .data }, { on := 15, ground := .chain }], guard := none } : Oper)) (v := ?_) rfl (by kernel_rfl) (by kernel_rfl) (by kernel_rfl) (fun _ _ _ h => h) (Or.inl ⟨by rfl, ?_⟩) (by assumption) ?_
        rotate_left
        · (intro w hSw; (try dsimp only at hSw); go_simp; try with_reducible rfl)
        try simp only [Act.put, List.setIfInBounds_toArray, List.set_cons_zero, List.set_cons_succ]
        refine wpAnyH_take (i := 21) (oi := ({ dst := some 26, op := .fieldAddr 29 (.tmp 1) 4, type := 0, pos := "delta.go:57", after := #[{ on := 20, ground := .guard }], guard := some (20, false) } : Oper)) (v := ?_) rfl (by kernel_rfl) (by kernel_rfl) (by kernel_rfl) (fun _ _ _ h => h) (Or.inl ⟨by rfl, ?_⟩) (by assumption) ?_
        rotate_left
        · (intro w hSw; (try dsimp only at hSw); go_simp; try with_reducible rfl)
        try simp only [Act.put, List.setIfInBounds_toArray, List.set_cons_zero, List.set_cons_succ]
        refine wpAnyH_take (i := 22) (oi := ({ dst := some 27, op := .load 27 (.tmp 26), type := 27, pos := "delta.go:57", after := #[{ on := 21, ground := .data }, { on := 20, ground := .guard }], guard := some (20, false) } : Oper)) (v := ?_) rfl (by kernel_rfl) (by kernel_rfl) (by kernel_rfl) (fun _ _ _ h => h) (Or.inl ⟨by rfl, ?_⟩) (by assumption) ?_
        rotate_left
        · (intro w hSw; (try dsimp only at hSw); have q1 := HB.out.2.2.2.1 _ hSw; go_simp; try with_reducible rfl)
        try simp only [Act.put, List.setIfInBounds_toArray, List.set_cons_zero, List.set_cons_succ]
        refine wpAnyH_take (i := 23) (oi := ({ dst := some 28, op := .call { callee := .builtin .len, args := #[.tmp 27], argTypes := #[27] }, type := 3, pos := "delta.go:57", after := #[{ on := 22, ground := .data }, { on := 20, ground := .guard }], guard := some (20, false) } : Oper)) (v := ?_) rfl (by kernel_rfl) (by kernel_rfl) (by kernel_rfl) (fun _ _ _ h => h) (Or.inl ⟨by rfl, ?_⟩) (by assumption) ?_
        rotate_left
        · (intro w hSw; (try dsimp only at hSw); go_simp; try with_reducible rfl)
        try simp only [Act.put, List.setIfInBounds_toArray, List.set_cons_zero, List.set_cons_succ]
        refine wpAnyH_take (i := 24) (oi := ({ dst := some 29, op := .fieldAddr 29 (.tmp 1) 2, type := 0, pos := "delta.go:57", after := #[{ on := 20, ground := .guard }], guard := some (20, false) } : Oper)) (v := ?_) rfl (by kernel_rfl) (by kernel_rfl) (by kernel_rfl) (fun _ _ _ h => h) (Or.inl ⟨by rfl, ?_⟩) (by assumption) ?_
        rotate_left
        · (intro w hSw; (try dsimp only at hSw); go_simp; try with_reducible rfl)
        try simp only [Act.put, List.setIfInBounds_toArray, List.set_cons_zero, List.set_cons_succ]
        refine wpAnyH_take (i := 25) (oi := ({ dst := some 30, op := .load 3 (.tmp 29), type := 3, pos := "delta.go:57", after := #[{ on := 24, ground := .data }, { on := 20, ground := .guard }], guard := some (20, false) } : Oper)) (v := ?_) rfl (by kernel_rfl) (by kernel_rfl) (by kernel_rfl) (fun _ _ _ h => h) (Or.inl ⟨by rfl, ?_⟩) (by assumption) ?_
        rotate_left
        · (intro w hSw; (try dsimp only at hSw); have q1 := HB.out.2.2.1 _ hSw; go_simp; try with_reducible rfl)
        try simp only [Act.put, List.setIfInBounds_toArray, List.set_cons_zero, List.set_cons_succ]
        refine wpAnyH_take (i := 26) (oi := ({ dst := some 31, op := .fieldAddr 29 (.tmp 1) 1, type := 0, pos := "delta.go:57", after := #[{ on := 20, ground := .guard }], guard := some (20, false) } : Oper)) (v := ?_) rfl (by kernel_rfl) (by kernel_rfl) (by kernel_rfl) (fun _ _ _ h => h) (Or.inl ⟨by rfl, ?_⟩) (by assumption) ?_
        rotate_left
        · (intro w hSw; (try dsimp only at hSw); go_simp; try with_reducible rfl)
        try simp only [Act.put, List.setIfInBounds_toArray, List.set_cons_zero, List.set_cons_succ]
        refine wpAnyH_take (i := 27) (oi := ({ dst := some 32, op := .load 3 (.tmp 31), type := 3, pos := "delta.go:57", after := #[{ on := 26, ground := .data }, { on := 20, ground := .guard }], guard := some (20, false) } : Oper)) (v := ?_) rfl (by kernel_rfl) (by kernel_rfl) (by kernel_rfl) (fun _ _ _ h => h) (Or.inl ⟨by rfl, ?_⟩) (by assumption) ?_
        rotate_left
        · (intro w hSw; (try dsimp only at hSw); have q1 := HB.out.2.1 _ hSw; go_simp; try with_reducible rfl)
        try simp only [Act.put, List.setIfInBounds_toArray, List.set_cons_zero, List.set_cons_succ]
        refine wpAnyH_take (i := 28) (oi := ({ dst := some 33, op := .binOp .quo 3 (.tmp 30) (.tmp 32) 3, type := 3, pos := "delta.go:57", after := #[{ on := 25, ground := .data }, { on := 27, ground := .data }, { on := 20, ground := .guard }], guard := some (20, false) } : Oper)) (v := ?_) rfl (by kernel_rfl) (by kernel_rfl) (by kernel_rfl) (fun _ _ _ h => h) (Or.inl ⟨by rfl, ?_⟩) (by assumption) ?_
        rotate_left
        · (intro w hSw; (try dsimp only at hSw); go_simp; try with_reducible rfl)
        try simp only [Act.put, List.setIfInBounds_toArray, List.set_cons_zero, List.set_cons_succ]
        refine wpAnyH_take (i := 29) (oi := ({ dst := some 34, op := .binOp .neq 3 (.tmp 28) (.tmp 33) 3, type := 4, pos := "delta.go:57", after := #[{ on := 23, ground := .data }, { on := 28, ground := .data }, { on := 20, ground := .guard }], guard := some (20, false) } : Oper)) (v := ?_) rfl (by kernel_rfl) (by kernel_rfl) (by kernel_rfl) (fun _ _ _ h => h) (Or.inl ⟨by rfl, ?_⟩) (by assumption) ?_
        rotate_left
        · (intro w hSw; (try dsimp only at hSw); go_simp; try with_reducible rfl)
        try simp only [Act.put, List.setIfInBounds_toArray, List.set_cons_zero, List.set_cons_succ]
        refine wpAnyH_take (i := 30) (oi := ({ dst := some 35, op := .pick (.tmp 25) (.const (.bool true)) (.tmp 34), type := 4, pos := "delta.go:57", after := #[{ on := 20, ground := .data }, { on := 29, ground := .data }], guard := none } : Oper)) (v := ?_) rfl (by kernel_rfl) (by kernel_rfl) (by kernel_rfl) (fun _ _ _ h => h) (Or.inl ⟨by rfl, ?_⟩) (by assumption) ?_
        rotate_left
        · (intro w hSw; (try dsimp only at hSw); go_simp; try with_reducible rfl)
        try simp only [Act.put, List.setIfInBounds_toArray, List.set_cons_zero, List.set_cons_succ]
        refine wpAnyH_take (i := 31) (oi := ({ dst := some 36, op := .move (.tmp 35), type := 4, pos := "delta.go:57", after := #[{ on := 30, ground := .data }, { on := 20, ground := .chain }], guard := none } : Oper)) (v := ?_) rfl (by kernel_rfl) (by kernel_rfl) (by kernel_rfl) (fun _ _ _ h => h) (Or.inl ⟨by rfl, ?_⟩) (by assumption) ?_
        rotate_left
        · (intro w hSw; (try dsimp only at hSw); go_simp; try with_reducible rfl)
        try simp only [Act.put, List.setIfInBounds_toArray, List.set_cons_zero, List.set_cons_succ]
        refine wpAnyH_take (i := 32) (oi := ({ dst := some 37, op := .fieldAddr 29 (.tmp 1) 4, type := 0, pos := "delta.go:57", after := #[{ on := 31, ground := .guard }], guard := some (31, false) } : Oper)) (v := undef) rfl (by kernel_rfl) (by kernel_rfl) (by kernel_rfl) (fun _ _ _ h => h) (Or.inr ⟨by rfl, rfl⟩) (by assumption) ?_
        try simp only [Act.put, List.setIfInBounds_toArray, List.set_cons_zero, List.set_cons_succ]
        refine wpAnyH_take (i := 33) (oi := ({ dst := some 38, op := .load 27 (.tmp 37), type := 27, pos := "delta.go:57", after := #[{ on := 32, ground := .data }, { on := 31, ground := .guard }], guard := some (31, false) } : Oper)) (v := undef) rfl (by kernel_rfl) (by kernel_rfl) (by kernel_rfl) (fun _ _ _ h => h) (Or.inr ⟨by rfl, rfl⟩) (by assumption) ?_
        try simp only [Act.put, List.setIfInBounds_toArray, List.set_cons_zero, List.set_cons_succ]
        refine wpAnyH_take (i := 34) (oi := ({ dst := some 39, op := .call { callee := .builtin .len, args := #[.tmp 38], argTypes := #[27] }, type := 3, pos := "delta.go:57", after := #[{ on := 33, ground := .data }, { on := 31, ground := .guard }], guard := some (31, false) } : Oper)) (v := undef) rfl (by kernel_rfl) (by kernel_rfl) (by kernel_rfl) (fun _ _ _ h => h) (Or.inr ⟨by rfl, rfl⟩) (by assumption) ?_
        try simp only [Act.put, List.setIfInBounds_toArray, List.set_cons_zero, List.set_cons_succ]
        refine wpAnyH_take (i := 35) (oi := ({ dst := some 40, op := .binOp .gtr 3 (.tmp 39) (.const (.int .i64 2048)) 3, type := 4, pos := "delta.go:57", after := #[{ on := 34, ground := .data }, { on := 31, ground := .guard }], guard := some (31, false) } : Oper)) (v := undef) rfl (by kernel_rfl) (by kernel_rfl) (by kernel_rfl) (fun _ _ _ h => h) (Or.inr ⟨by rfl, rfl⟩) (by assumption) ?_
        try simp only [Act.put, List.setIfInBounds_toArray, List.set_cons_zero, List.set_cons_succ]
        refine wpAnyH_take (i := 36) (oi := ({ dst := some 41, op := .pick (.tmp 36) (.const (.bool true)) (.tmp 40), type := 4, pos := "delta.go:57", after := #[{ on := 31, ground := .data }, { on := 35, ground := .data }], guard := none } : Oper)) (v := ?_) rfl (by kernel_rfl) (by kernel_rfl) (by kernel_rfl) (fun _ _ _ h => h) (Or.inl ⟨by rfl, ?_⟩) (by assumption) ?_
        rotate_left
        · (intro w hSw; (try dsimp only at hSw); go_simp; try with_reducible rfl)
        try simp only [Act.put, List.setIfInBounds_toArray, List.set_cons_zero, List.set_cons_succ]
        refine wpAnyH_take (i := 37) (oi := ({ dst := some 42, op := .move (.tmp 41), type := 4, pos := "delta.go:57", after := #[{ on := 36, ground := .data }, { on := 31, ground := .chain }], guard := none } : Oper)) (v := ?_) rfl (by kernel_rfl) (by kernel_rfl) (by kernel_rfl) (fun _ _ _ h => h) (Or.inl ⟨by rfl, ?_⟩) (by assumption) ?_
        rotate_left
        · (intro w hSw; (try dsimp only at hSw); go_simp; try with_reducible rfl)
        try simp only [Act.put, List.setIfInBounds_toArray, List.set_cons_zero, List.set_cons_succ]
        refine wpAnyH_take (i := 38) (oi := ({ dst := some 43, op := .fieldAddr 29 (.tmp 1) 3, type := 0, pos := "delta.go:57", after := #[{ on := 37, ground := .guard }], guard := some (37, false) } : Oper)) (v := undef) rfl (by kernel_rfl) (by kernel_rfl) (by kernel_rfl) (fun _ _ _ h => h) (Or.inr ⟨by rfl, rfl⟩) (by assumption) ?_
        try simp only [Act.put, List.setIfInBounds_toArray, List.set_cons_zero, List.set_cons_succ]
        refine wpAnyH_take (i := 39) (oi := ({ dst := some 44, op := .load 26 (.tmp 43), type := 26, pos := "delta.go:57", after := #[{ on := 38, ground := .data }, { on := 37, ground := .guard }], guard := some (37, false) } : Oper)) (v := undef) rfl (by kernel_rfl) (by kernel_rfl) (by kernel_rfl) (fun _ _ _ h => h) (Or.inr ⟨by rfl, rfl⟩) (by assumption) ?_
        try simp only [Act.put, List.setIfInBounds_toArray, List.set_cons_zero, List.set_cons_succ]
        refine wpAnyH_take (i := 40) (oi := ({ dst := some 45, op := .fieldAddr 29 (.tmp 1) 0, type := 0, pos := "delta.go:57", after := #[{ on := 37, ground := .guard }], guard := some (37, false) } : Oper)) (v := undef) rfl (by kernel_rfl) (by kernel_rfl) (by kernel_rfl) (fun _ _ _ h => h) (Or.inr ⟨by rfl, rfl⟩) (by assumption) ?_
        try simp only [Act.put, List.setIfInBounds_toArray, List.set_cons_zero, List.set_cons_succ]
        refine wpAnyH_take (i := 41) (oi := ({ dst := some 46, op := .load 3 (.tmp 45), type := 3, pos := "delta.go:57", after := #[{ on := 40, ground := .data }, { on := 37, ground := .guard }], guard := some (37, false) } : Oper)) (v := undef) rfl (by kernel_rfl) (by kernel_rfl) (by kernel_rfl) (fun _ _ _ h => h) (Or.inr ⟨by rfl, rfl⟩) (by assumption) ?_
        try simp only [Act.put, List.setIfInBounds_toArray, List.set_cons_zero, List.set_cons_succ]
        refine wpAnyH_take (i := 42) (oi := ({ dst := some 47, op := .call { callee := .value (.func 76), args := #[.tmp 44, .tmp 46], argTypes := #[26, 3] }, type := 4, pos := "delta.go:57", after := #[{ on := 39, ground := .data }, { on := 41, ground := .data }, { on := 37, ground := .chain }, { on := 37, ground := .guard }], guard := some (37, false) } : Oper)) (v := undef) rfl (by kernel_rfl) (by kernel_rfl) (by kernel_rfl) (fun _ _ _ h => h) (Or.inr ⟨by rfl, rfl⟩) (by assumption) ?_
        try simp only [Act.put, List.setIfInBounds_toArray, List.set_cons_zero, List.set_cons_succ]
        refine wpAnyH_take (i := 43) (oi := ({ dst := some 48, op := .unOp .not 4 (.tmp 47), type := 4, pos := "delta.go:57", after := #[{ on := 42, ground := .data }, { on := 37, ground := .guard }], guard := some (37, false) } : Oper)) (v := undef) rfl (by kernel_rfl) (by kernel_rfl) (by kernel_rfl) (fun _ _ _ h => h) (Or.inr ⟨by rfl, rfl⟩) (by assumption) ?_
        try simp only [Act.put, List.setIfInBounds_toArray, List.set_cons_zero, List.set_cons_succ]
        refine wpAnyH_take (i := 44) (oi := ({ dst := some 49, op := .pick (.tmp 42) (.const (.bool true)) (.tmp 48), type := 4, pos := "delta.go:57", after := #[{ on := 37, ground := .data }, { on := 43, ground := .data }], guard := none } : Oper)) (v := ?_) rfl (by kernel_rfl) (by kernel_rfl) (by kernel_rfl) (fun _ _ _ h => h) (Or.inl ⟨by rfl, ?_⟩) (by assumption) ?_
        rotate_left
        · (intro w hSw; (try dsimp only at hSw); go_simp; try with_reducible rfl)
        try simp only [Act.put, List.setIfInBounds_toArray, List.set_cons_zero, List.set_cons_succ]
        refine wpAnyH_done (by kernel_rfl) ?_ _
        refine NoPanic.normal ?_
        skip
        go_wp2_with fail
        go_returns
        exact ⟨by rw [HNO.out]; rfl, k0.trans' ke⟩
      subst h3
      have d3' : (n : Int) = n := rfl
      have HNQ := Lib.hid d3'
      by_cases h4 : 2048 < n
      · have d4 : decide (2048 < (n : Int)) = true := decide_eq_true (by omega)
        clear d3'
        have HNO := Lib.hid (show ans = false by rw [← HANS.out, HMO.out, HL.out, decide_eq_false (show ¬ n ≤ 2048 by omega)]; simp only [Bool.false_and, Bool.and_false])
        clear HANS HMO
        refine wp_region_noPanic ?_
        refine wp_region_held_drew (S := fun w' => Blk w' b cs 29) (by kernel_rfl) ?_ (fun hHeld0 => ?_)
        · (try dsimp only); exact B0.keep ke (by simp)
        refine wpAnyH_take (i := 0) (oi := ({ dst := some 5, op := .fieldAddr 29 (.tmp 1) 0, type := 0, pos := "delta.go:57", after := #[], guard := none } : Oper)) (v := ?_) rfl (by kernel_rfl) (by kernel_rfl) (by kernel_rfl) (fun _ _ _ h => h) (Or.inl ⟨by rfl, ?_⟩) (by assumption) ?_
        rotate_left
        · (intro w hSw; (try dsimp only at hSw); go_simp; try with_reducible rfl)
        try simp only [Act.put, List.setIfInBounds_toArray, List.set_cons_zero, List.set_cons_succ]
        refine wpAnyH_take (i := 1) (oi := ({ dst := some 6, op := .load 3 (.tmp 5), type := 3, pos := "delta.go:57", after := #[{ on := 0, ground := .data }], guard := none } : Oper)) (v := ?_) rfl (by kernel_rfl) (by kernel_rfl) (by kernel_rfl) (fun _ _ _ h => h) (Or.inl ⟨by rfl, ?_⟩) (by assumption) ?_
        rotate_left
        · (intro w hSw; (try dsimp only at hSw); have q1 := HB.out.1 _ hSw; go_simp; try with_reducible rfl)
        try simp only [Act.put, List.setIfInBounds_toArray, List.set_cons_zero, List.set_cons_succ]
        refine wpAnyH_ready (rs := [2]) (by kernel_rfl) (by simp) ?_
        refine (AllReadyH.cons (o := ({ dst := some 7, op := .call { callee := .value (.func 41), args := #[.tmp 6], argTypes := #[3] }, type := 4, pos := "delta.go:57", after := #[{ on := 1, ground := .data }], guard := none } : Oper)) rfl (fun K hK => ?_) AllReadyH.nil)
        go_simp
        (refine (width_k _ _).mono ?_; rintro e w' ⟨rfl, kn⟩; have ke := ke.trans' kn; rw [hw1])
        go_wp2_with fail
        refine hK.out _ _ ?_ (fun hHeld1 => ?_)
        · (try dsimp only); exact B0.keep ke (by simp)
        clear hK K
        try simp only [Act.put, List.setIfInBounds_toArray, List.set_cons_zero, List.set_cons_succ]
        refine wpAnyH_take (i := 3) (oi := ({ dst := some 8, op := .unOp .not 4 (.tmp 7), type := 4, pos := "delta.go:57", after := #[{ on := 2, ground := .data }], guard := none } : Oper)) (v := ?_) rfl (by kernel_rfl) (by kernel_rfl) (by kernel_rfl) (fun _ _ _ h => h) (Or.inl ⟨by rfl, ?_⟩) (by assumption) ?_
        rotate_left
        · (intro w hSw; (try dsimp only at hSw); go_simp; try with_reducible rfl)
        try simp only [Act.put, List.setIfInBounds_toArray, List.set_cons_zero, List.set_cons_succ]
        refine wpAnyH_take (i := 4) (oi := ({ dst := some 9, op := .move (.tmp 8), type := 4, pos := "delta.go:57", after := #[{ on := 3, ground := .data }, { on := 2, ground := .chain }], guard := none } : Oper)) (v := ?_) rfl (by kernel_rfl) (by kernel_rfl) (by kernel_rfl) (fun _ _ _ h => h) (Or.inl ⟨by rfl, ?_⟩) (by assumption) ?_
        rotate_left
        · (intro w hSw; (try dsimp only at hSw); go_simp; try with_reducible rfl)
        try simp only [Act.put, List.setIfInBounds_toArray, List.set_cons_zero, List.set_cons_succ]
        refine wpAnyH_take (i := 5) (oi := ({ dst := some 10, op := .fieldAddr 29 (.tmp 1) 1, type := 0, pos := "delta.go:57", after := #[{ on := 4, ground := .guard }], guard := some (4, false) } : Oper)) (v := ?_) rfl (by kernel_rfl) (by kernel_rfl) (by kernel_rfl) (fun _ _ _ h => h) (Or.inl ⟨by rfl, ?_⟩) (by assumption) ?_
        rotate_left
        · (intro w hSw; (try dsimp only at hSw); go_simp; try with_reducible rfl)
        try simp only [Act.put, List.setIfInBounds_toArray, List.set_cons_zero, List.set_cons_succ]
        refine wpAnyH_take (i := 6) (oi := ({ dst := some 11, op := .load 3 (.tmp 10), type := 3, pos := "delta.go:57", after := #[{ on := 5, ground := .data }, { on := 4, ground := .guard }], guard := some (4, false) } : Oper)) (v := ?_) rfl (by kernel_rfl) (by kernel_rfl) (by kernel_rfl) (fun _ _ _ h => h) (Or.inl ⟨by rfl, ?_⟩) (by assumption) ?_
        rotate_left
        · (intro w hSw; (try dsimp only at hSw); have q1 := HB.out.2.1 _ hSw; go_simp; try with_reducible rfl)
        try simp only [Act.put, List.setIfInBounds_toArray, List.set_cons_zero, List.set_cons_succ]
        refine wpAnyH_ready (rs := [7]) (by kernel_rfl) (by simp) ?_
        refine (AllReadyH.cons (o := ({ dst := some 12, op := .call { callee := .value (.func 42), args := #[.tmp 11], argTypes := #[3] }, type := 4, pos := "delta.go:57", after := #[{ on := 6, ground := .data }, { on := 4, ground := .chain }, { on := 4, ground := .guard }], guard := some (4, false) } : Oper)) rfl (fun K hK => ?_) AllReadyH.nil)
        go_simp
        (refine (size_k _ _).mono ?_; rintro e w' ⟨rfl, kn⟩; have ke := ke.trans' kn; rw [hs1])
        go_wp2_with fail
        refine hK.out _ _ ?_ (fun hHeld2 => ?_)
        · (try dsimp only); exact B0.keep ke (by simp)
        clear hK K
        try simp only [Act.put, List.setIfInBounds_toArray, List.set_cons_zero, List.set_cons_succ]
        refine wpAnyH_take (i := 8) (oi := ({ dst := some 13, op := .unOp .not 4 (.tmp 12), type := 4, pos := "delta.go:57", after := #[{ on := 7, ground := .data }, { on := 4, ground := .guard }], guard := some (4, false) } : Oper)) (v := ?_) rfl (by kernel_rfl) (by kernel_rfl) (by kernel_rfl) (fun _ _ _ h => h) (Or.inl ⟨by rfl, ?_⟩) (by assumption) ?_
        rotate_left
        · (intro w hSw; (try dsimp only at hSw); go_simp; try with_reducible rfl)
        try simp only [Act.put, List.setIfInBounds_toArray, List.set_cons_zero, List.set_cons_succ]
        refine wpAnyH_take (i := 9) (oi := ({ dst := some 14, op := .pick (.tmp 9) (.const (.bool true)) (.tmp 13), type := 4, pos := "delta.go:57", after := #[{ on := 4, ground := .data }, { on := 8, ground := .data }], guard := none } : Oper)) (v := ?_) rfl (by kernel_rfl) (by kernel_rfl) (by kernel_rfl) (fun _ _ _ h => h) (Or.inl ⟨by rfl, ?_⟩) (by assumption) ?_
        rotate_left
        · (intro w hSw; (try dsimp only at hSw); go_simp; try with_reducible rfl)
        try simp only [Act.put, List.setIfInBounds_toArray, List.set_cons_zero, List.set_cons_succ]
        refine wpAnyH_take (i := 10) (oi := ({ dst := some 15, op := .move (.tmp 14), type := 4, pos := "delta.go:57", after := #[{ on := 9, ground := .data }, { on := 7, ground := .chain }], guard := none } : Oper)) (v := ?_) rfl (by kernel_rfl) (by kernel_rfl) (by kernel_rfl) (fun _ _ _ h => h) (Or.inl ⟨by rfl, ?_⟩) (by assumption) ?_
        rotate_left
        · (intro w hSw; (try dsimp only at hSw); go_simp; try with_reducible rfl)
        try simp only [Act.put, List.setIfInBounds_toArray, List.set_cons_zero, List.set_cons_succ]
        refine wpAnyH_take (i := 11) (oi := ({ dst := some 16, op := .fieldAddr 29 (.tmp 1) 2, type := 0, pos := "delta.go:57", after := #[{ on := 10, ground := .guard }], guard := some (10, false) } : Oper)) (v := ?_) rfl (by kernel_rfl) (by kernel_rfl) (by kernel_rfl) (fun _ _ _ h => h) (Or.inl ⟨by rfl, ?_⟩) (by assumption) ?_
        rotate_left
        · (intro w hSw; (try dsimp only at hSw); go_simp; try with_reducible rfl)
        try simp only [Act.put, List.setIfInBounds_toArray, List.set_cons_zero, List.set_cons_succ]
        refine wpAnyH_take (i := 12) (oi := ({ dst := some 17, op := .load 3 (.tmp 16), type := 3, pos := "delta.go:57", after := #[{ on := 11, ground := .data }, { on := 10, ground := .guard }], guard := some (10, false) } : Oper)) (v := ?_) rfl (by kernel_rfl) (by kernel_rfl) (by kernel_rfl) (fun _ _ _ h => h) (Or.inl ⟨by rfl, ?_⟩) (by assumption) ?_
        rotate_left
        · (intro w hSw; (try dsimp only at hSw); have q1 := HB.out.2.2.1 _ hSw; go_simp; try with_reducible rfl)
        try simp only [Act.put, List.setIfInBounds_toArray, List.set_cons_zero, List.set_cons_succ]
        refine wpAnyH_take (i := 13) (oi := ({ dst := some 18, op := .binOp .lss 3 (.tmp 17) (.const (.int .i64 0)) 3, type := 4, pos := "delta.go:57", after := #[{ on := 12, ground := .data }, { on := 10, ground := .guard }], guard := some (10, false) } : Oper)) (v := ?_) rfl (by kernel_rfl) (by kernel_rfl) (by kernel_rfl) (fun _ _ _ h => h) (Or.inl ⟨by rfl, ?_⟩) (by assumption) ?_
        rotate_left
        · (intro w hSw; (try dsimp only at hSw); go_simp; try with_reducible rfl)
        try simp only [Act.put, List.setIfInBounds_toArray, List.set_cons_zero, List.set_cons_succ]
        refine wpAnyH_take (i := 14) (oi := ({ dst := some 19, op := .pick (.tmp 15) (.const (.bool true)) (.tmp 18), type := 4, pos := "delta.go:57", after := #[{ on := 10, ground := .data }, { on := 13, ground := .data }], guard := none } : Oper)) (v := ?_) rfl (by kernel_rfl) (by kernel_rfl) (by kernel_rfl) (fun _ _ _ h => h) (Or.inl ⟨by rfl, ?_⟩) (by assumption) ?_
        rotate_left
        · (intro w hSw; (try dsimp only at hSw); go_simp; try with_reducible rfl)
        try simp only [Act.put, List.setIfInBounds_toArray, List.set_cons_zero, List.set_cons_succ]
        refine wpAnyH_take (i := 15) (oi := ({ dst := some 20, op := .move (.tmp 19), type := 4, pos := "delta.go:57", after := #[{ on := 14, ground := .data }, { on := 10, ground := .chain }], guard := none } : Oper)) (v := ?_) rfl (by kernel_rfl) (by kernel_rfl) (by kernel_rfl) (fun _ _ _ h => h) (Or.inl ⟨by rfl, ?_⟩) (by assumption) ?_
        rotate_left
        · (intro w hSw; (try dsimp only at hSw); go_simp; try with_reducible rfl)
        try simp only [Act.put, List.setIfInBounds_toArray, List.set_cons_zero, List.set_cons_succ]
        refine wpAnyH_take (i := 16) (oi := ({ dst := some 21, op := .fieldAddr 29 (.tmp 1) 2, type := 0, pos := "delta.go:57", after := #[{ on := 15, ground := .guard }], guard := some (15, false) } : Oper)) (v := ?_) rfl (by kernel_rfl) (by kernel_rfl) (by kernel_rfl) (fun _ _ _ h => h) (Or.inl ⟨by rfl, ?_⟩) (by assumption) ?_
        rotate_left
        · (intro w hSw; (try dsimp only at hSw); go_simp; try with_reducible rfl)
        try simp only [Act.put, List.setIfInBounds_toArray, List.set_cons_zero, List.set_cons_succ]
        refine wpAnyH_take (i := 17) (oi := ({ dst := some 22, op := .load 3 (.tmp 21), type := 3, pos := "delta.go:57", after := #[{ on := 16, ground := .data }, { on := 15, ground := .guard }], guard := some (15, false) } : Oper)) (v := ?_) rfl (by kernel_rfl) (by kernel_rfl) (by kernel_rfl) (fun _ _ _ h => h) (Or.inl ⟨by rfl, ?_⟩) (by assumption) ?_
        rotate_left
        · (intro w hSw; (try dsimp only at hSw); have q1 := HB.out.2.2.1 _ hSw; go_simp; try with_reducible rfl)
        try simp only [Act.put, List.setIfInBounds_toArray, List.set_cons_zero, List.set_cons_succ]
        refine wpAnyH_take (i := 18) (oi := ({ dst := some 23, op := .binOp .gtr 3 (.tmp 22) (.const (.int .i64 131072)) 3, type := 4, pos := "delta.go:57", after := #[{ on := 17, ground := .data }, { on := 15, ground := .guard }], guard := some (15, false) } : Oper)) (v := ?_) rfl (by kernel_rfl) (by kernel_rfl) (by kernel_rfl) (fun _ _ _ h => h) (Or.inl ⟨by rfl, ?_⟩) (by assumption) ?_
        rotate_left
        · (intro w hSw; (try dsimp only at hSw); go_simp; try with_reducible rfl)
        try simp only [Act.put, List.setIfInBounds_toArray, List.set_cons_zero, List.set_cons_succ]
        refine wpAnyH_take (i := 19) (oi := ({ dst := some 24, op := .pick (.tmp 20) (.const (.bool true)) (.tmp 23), type := 4, pos := "delta.go:57", after := #[{ on := 15, ground := .data }, { on := 18, ground := .data }], guard := none } : Oper)) (v := ?_) rfl (by kernel_rfl) (by kernel_rfl) (by kernel_rfl) (fun _ _ _ h => h) (Or.inl ⟨by rfl, ?_⟩) (by assumption) ?_
        rotate_left
        · (intro w hSw; (try dsimp only at hSw); go_simp; try with_reducible rfl)
        try simp only [Act.put, List.setIfInBounds_toArray, List.set_cons_zero, List.set_cons_succ]
        refine wpAnyH_take (i := 20) (oi := ({ dst := some 25, op := .move (.tmp 24), type := 4, pos := "delta.go:57", after := #[{ on := 19, ground := .data }, { on := 15, ground := .chain }], guard := none } : Oper)) (v := ?_) rfl (by kernel_rfl) (by kernel_rfl) (by kernel_rfl) (fun _ _ _ h => h) (Or.inl ⟨by rfl, ?_⟩) (by assumption) ?_
        rotate_left
        · (intro w hSw; (try dsimp only at hSw); go_simp; try with_reducible rfl)
        try simp only [Act.put, List.setIfInBounds_toArray, List.set_cons_zero, List.set_cons_succ]
        refine wpAnyH_take (i := 21) (oi := ({ dst := some 26, op := .fieldAddr 29 (.tmp 1) 4, type := 0, pos := "delta.go:57", after := #[{ on := 20, ground := .guard }], guard := some (20, false) } : Oper)) (v := ?_) rfl (by kernel_rfl) (by kernel_rfl) (by kernel_rfl) (fun _ _ _ h => h) (Or.inl ⟨by rfl, ?_⟩) (by assumption) ?_
        rotate_left
        · (intro w hSw; (try dsimp only at hSw); go_simp; try with_reducible rfl)
        try simp only [Act.put, List.setIfInBounds_toArray, List.set_cons_zero, List.set_cons_succ]
        refine wpAnyH_take (i := 22) (oi := ({ dst := some 27, op := .load 27 (.tmp 26), type := 27, pos := "delta.go:57", after := #[{ on := 21, ground := .data }, { on := 20, ground := .guard }], guard := some (20, false) } : Oper)) (v := ?_) rfl (by kernel_rfl) (by kernel_rfl) (by kernel_rfl) (fun _ _ _ h => h) (Or.inl ⟨by rfl, ?_⟩) (by assumption) ?_
        rotate_left
        · (intro w hSw; (try dsimp only at hSw); have q1 := HB.out.2.2.2.1 _ hSw; go_simp; try with_reducible rfl)
        try simp only [Act.put, List.setIfInBounds_toArray, List.set_cons_zero, List.set_cons_succ]
        refine wpAnyH_take (i := 23) (oi := ({ dst := some 28, op := .call { callee := .builtin .len, args := #[.tmp 27], argTypes := #[27] }, type := 3, pos := "delta.go:57", after := #[{ on := 22, ground := .data }, { on := 20, ground := .guard }], guard := some (20, false) } : Oper)) (v := ?_) rfl (by kernel_rfl) (by kernel_rfl) (by kernel_rfl) (fun _ _ _ h => h) (Or.inl ⟨by rfl, ?_⟩) (by assumption) ?_
        rotate_left
        · (intro w hSw; (try dsimp only at hSw); go_simp; try with_reducible rfl)
        try simp only [Act.put, List.setIfInBounds_toArray, List.set_cons_zero, List.set_cons_succ]
        refine wpAnyH_take (i := 24) (oi := ({ dst := some 29, op := .fieldAddr 29 (.tmp 1) 2, type := 0, pos := "delta.go:57", after := #[{ on := 20, ground := .guard }], guard := some (20, false) } : Oper)) (v := ?_) rfl (by kernel_rfl) (by kernel_rfl) (by kernel_rfl) (fun _ _ _ h => h) (Or.inl ⟨by rfl, ?_⟩) (by assumption) ?_
        rotate_left
        · (intro w hSw; (try dsimp only at hSw); go_simp; try with_reducible rfl)
        try simp only [Act.put, List.setIfInBounds_toArray, List.set_cons_zero, List.set_cons_succ]
        refine wpAnyH_take (i := 25) (oi := ({ dst := some 30, op := .load 3 (.tmp 29), type := 3, pos := "delta.go:57", after := #[{ on := 24, ground := .data }, { on := 20, ground := .guard }], guard := some (20, false) } : Oper)) (v := ?_) rfl (by kernel_rfl) (by kernel_rfl) (by kernel_rfl) (fun _ _ _ h => h) (Or.inl ⟨by rfl, ?_⟩) (by assumption) ?_
        rotate_left
        · (intro w hSw; (try dsimp only at hSw); have q1 := HB.out.2.2.1 _ hSw; go_simp; try with_reducible rfl)
        try simp only [Act.put, List.setIfInBounds_toArray, List.set_cons_zero, List.set_cons_succ]
        refine wpAnyH_take (i := 26) (oi := ({ dst := some 31, op := .fieldAddr 29 (.tmp 1) 1, type := 0, pos := "delta.go:57", after := #[{ on := 20, ground := .guard }], guard := some (20, false) } : Oper)) (v := ?_) rfl (by kernel_rfl) (by kernel_rfl) (by kernel_rfl) (fun _ _ _ h => h) (Or.inl ⟨by rfl, ?_⟩) (by assumption) ?_
        rotate_left
        · (intro w hSw; (try dsimp only at hSw); go_simp; try with_reducible rfl)
        try simp only [Act.put, List.setIfInBounds_toArray, List.set_cons_zero, List.set_cons_succ]
        refine wpAnyH_take (i := 27) (oi := ({ dst := some 32, op := .load 3 (.tmp 31), type := 3, pos := "delta.go:57", after := #[{ on := 26, ground := .data }, { on := 20, ground := .guard }], guard := some (20, false) } : Oper)) (v := ?_) rfl (by kernel_rfl) (by kernel_rfl) (by kernel_rfl) (fun _ _ _ h => h) (Or.inl ⟨by rfl, ?_⟩) (by assumption) ?_
        rotate_left
        · (intro w hSw; (try dsimp only at hSw); have q1 := HB.out.2.1 _ hSw; go_simp; try with_reducible rfl)
        try simp only [Act.put, List.setIfInBounds_toArray, List.set_cons_zero, List.set_cons_succ]
        refine wpAnyH_take (i := 28) (oi := ({ dst := some 33, op := .binOp .quo 3 (.tmp 30) (.tmp 32) 3, type := 3, pos := "delta.go:57", after := #[{ on := 25, ground := .data }, { on := 27, ground := .data }, { on := 20, ground := .guard }], guard := some (20, false) } : Oper)) (v := ?_) rfl (by kernel_rfl) (by kernel_rfl) (by kernel_rfl) (fun _ _ _ h => h) (Or.inl ⟨by rfl, ?_⟩) (by assumption) ?_
        rotate_left
        · (intro w hSw; (try dsimp only at hSw); go_simp; try with_reducible rfl)
        try simp only [Act.put, List.setIfInBounds_toArray, List.set_cons_zero, List.set_cons_succ]
        refine wpAnyH_take (i := 29) (oi := ({ dst := some 34, op := .binOp .neq 3 (.tmp 28) (.tmp 33) 3, type := 4, pos := "delta.go:57", after := #[{ on := 23, ground := .data }, { on := 28, ground := .data }, { on := 20, ground := .guard }], guard := some (20, false) } : Oper)) (v := ?_) rfl (by kernel_rfl) (by kernel_rfl) (by kernel_rfl) (fun _ _ _ h => h) (Or.inl ⟨by rfl, ?_⟩) (by assumption) ?_
        rotate_left
        · (intro w hSw; (try dsimp only at hSw); go_simp; try with_reducible rfl)
        try simp only [Act.put, List.setIfInBounds_toArray, List.set_cons_zero, List.set_cons_succ]
        refine wpAnyH_take (i := 30) (oi := ({ dst := some 35, op := .pick (.tmp 25) (.const (.bool true)) (.tmp 34), type := 4, pos := "delta.go:57", after := #[{ on := 20, ground := .data }, { on := 29, ground := .data }], guard := none } : Oper)) (v := ?_) rfl (by kernel_rfl) (by kernel_rfl) (by kernel_rfl) (fun _ _ _ h => h) (Or.inl ⟨by rfl, ?_⟩) (by assumption) ?_
        rotate_left
        · (intro w hSw; (try dsimp only at hSw); go_simp; try with_reducible rfl)
        try simp only [Act.put, List.setIfInBounds_toArray, List.set_cons_zero, List.set_cons_succ]
        refine wpAnyH_take (i := 31) (oi := ({ dst := some 36, op := .move (.tmp 35), type := 4, pos := "delta.go:57", after := #[{ on := 30, ground := .data }, { on := 20, ground := .chain }], guard := none } : Oper)) (v := ?_) rfl (by kernel_rfl) (by kernel_rfl) (by kernel_rfl) (fun _ _ _ h => h) (Or.inl ⟨by rfl, ?_⟩) (by assumption) ?_
        rotate_left
        · (intro w hSw; (try dsimp only at hSw); go_simp; try with_reducible rfl)
        try simp only [Act.put, List.setIfInBounds_toArray, List.set_cons_zero, List.set_cons_succ]
        refine wpAnyH_take (i := 32) (oi := ({ dst := some 37, op := .fieldAddr 29 (.tmp 1) 4, type := 0, pos := "delta.go:57", after := #[{ on := 31, ground := .guard }], guard := some (31, false) } : Oper)) (v := ?_) rfl (by kernel_rfl) (by kernel_rfl) (by kernel_rfl) (fun _ _ _ h => h) (Or.inl ⟨by rfl, ?_⟩) (by assumption) ?_
        rotate_left
        · (intro w hSw; (try dsimp only at hSw); go_simp; try with_reducible rfl)
        try simp only [Act.put, List.setIfInBounds_toArray, List.set_cons_zero, List.set_cons_succ]
        refine wpAnyH_take (i := 33) (oi := ({ dst := some 38, op := .load 27 (.tmp 37), type := 27, pos := "delta.go:57", after := #[{ on := 32, ground := .data }, { on := 31, ground := .guard }], guard := some (31, false) } : Oper)) (v := ?_) rfl (by kernel_rfl) (by kernel_rfl) (by kernel_rfl) (fun _ _ _ h => h) (Or.inl ⟨by rfl, ?_⟩) (by assumption) ?_
        rotate_left
        · (intro w hSw; (try dsimp only at hSw); have q1 := HB.out.2.2.2.1 _ hSw; go_simp; try with_reducible rfl)
        try simp only [Act.put, List.setIfInBounds_toArray, List.set_cons_zero, List.set_cons_succ]
        refine wpAnyH_take (i := 34) (oi := ({ dst := some 39, op := .call { callee := .builtin .len, args := #[.tmp 38], argTypes := #[27] }, type := 3, pos := "delta.go:57", after := #[{ on := 33, ground := .data }, { on := 31, ground := .guard }], guard := some (31, false) } : Oper)) (v := ?_) rfl (by kernel_rfl) (by kernel_rfl) (by kernel_rfl) (fun _ _ _ h => h) (Or.inl ⟨by rfl, ?_⟩) (by assumption) ?_
        rotate_left
        · (intro w hSw; (try dsimp only at hSw); go_simp; try with_reducible rfl)
        try simp only [Act.put, List.setIfInBounds_toArray, List.set_cons_zero, List.set_cons_succ]
        refine wpAnyH_take (i := 35) (oi := ({ dst := some 40, op := .binOp .gtr 3 (.tmp 39) (.const (.int .i64 2048)) 3, type := 4, pos := "delta.go:57", after := #[{ on := 34, ground := .data }, { on := 31, ground := .guard }], guard := some (31, false) } : Oper)) (v := ?_) rfl (by kernel_rfl) (by kernel_rfl) (by kernel_rfl) (fun _ _ _ h => h) (Or.inl ⟨by rfl, ?_⟩) (by assumption) ?_
        rotate_left
        · (intro w hSw; (try dsimp only at hSw); go_simp; try with_reducible rfl)
        try simp only [Act.put, List.setIfInBounds_toArray, List.set_cons_zero, List.set_cons_succ]
        refine wpAnyH_take (i := 36) (oi := ({ dst := some 41, op := .pick (.tmp 36) (.const (.bool true)) (.tmp 40), type := 4, pos := "delta.go:57", after := #[{ on := 31, ground := .data }, { on := 35, ground := .data }], guard := none } : Oper)) (v := ?_) rfl (by kernel_rfl) (by kernel_rfl) (by kernel_rfl) (fun _ _ _ h => h) (Or.inl ⟨by rfl, ?_⟩) (by assumption) ?_
        rotate_left
        · (intro w hSw; (try dsimp only at hSw); go_simp; try with_reducible rfl)
        try simp only [Act.put, List.setIfInBounds_toArray, List.set_cons_zero, List.set_cons_succ]
        refine wpAnyH_take (i := 37) (oi := ({ dst := some 42, op := .move (.tmp 41), type := 4, pos := "delta.go:57", after := #[{ on := 36, ground := .data }, { on := 31, ground := .chain }], guard := none } : Oper)) (v := ?_) rfl (by kernel_rfl) (by kernel_rfl) (by kernel_rfl) (fun _ _ _ h => h) (Or.inl ⟨by rfl, ?_⟩) (by assumption) ?_
        rotate_left
        · (intro w hSw; (try dsimp only at hSw); go_simp; try with_reducible rfl)
        try simp only [Act.put, List.setIfInBounds_toArray, List.set_cons_zero, List.set_cons_succ]
        refine wpAnyH_take (i := 38) (oi := ({ dst := some 43, op := .fieldAddr 29 (.tmp 1) 3, type := 0, pos := "delta.go:57", after := #[{ on := 37, ground := .guard }], guard := some (37, false) } : Oper)) (v := undef) rfl (by kernel_rfl) (by kernel_rfl) (by kernel_rfl) (fun _ _ _ h => h) (Or.inr ⟨by rfl, rfl⟩) (by assumption) ?_
        try simp only [Act.put, List.setIfInBounds_toArray, List.set_cons_zero, List.set_cons_succ]
        refine wpAnyH_take (i := 39) (oi := ({ dst := some 44, op := .load 26 (.tmp 43), type := 26, pos := "delta.go:57", after := #[{ on := 38, ground := .data }, { on := 37, ground := .guard }], guard := some (37, false) } : Oper)) (v := undef) rfl (by kernel_rfl) (by kernel_rfl) (by kernel_rfl) (fun _ _ _ h => h) (Or.inr ⟨by rfl, rfl⟩) (by assumption) ?_
        try simp only [Act.put, List.setIfInBounds_toArray, List.set_cons_zero, List.set_cons_succ]
        refine wpAnyH_take (i := 40) (oi := ({ dst := some 45, op := .fieldAddr 29 (.tmp 1) 0, type := 0, pos := "delta.go:57", after := #[{ on := 37, ground := .guard }], guard := some (37, false) } : Oper)) (v := undef) rfl (by kernel_rfl) (by kernel_rfl) (by kernel_rfl) (fun _ _ _ h => h) (Or.inr ⟨by rfl, rfl⟩) (by assumption) ?_
        try simp only [Act.put, List.setIfInBounds_toArray, List.set_cons_zero, List.set_cons_succ]
        refine wpAnyH_take (i := 41) (oi := ({ dst := some 46, op := .load 3 (.tmp 45), type := 3, pos := "delta.go:57", after := #[{ on := 40, ground := .data }, { on := 37, ground := .guard }], guard := some (37, false) } : Oper)) (v := undef) rfl (by kernel_rfl) (by kernel_rfl) (by kernel_rfl) (fun _ _ _ h => h) (Or.inr ⟨by rfl, rfl⟩) (by assumption) ?_
        try simp only [Act.put, List.setIfInBounds_toArray, List.set_cons_zero, List.set_cons_succ]
        refine wpAnyH_take (i := 42) (oi := ({ dst := some 47, op := .call { callee := .value (.func 76), args := #[.tmp 44, .tmp 46], argTypes := #[26, 3] }, type := 4, pos := "delta.go:57", after := #[{ on := 39, ground := .data }, { on := 41, ground := .data }, { on := 37, ground := .chain }, { on := 37, ground := .guard }], guard := some (37, false) } : Oper)) (v := undef) rfl (by kernel_rfl) (by kernel_rfl) (by kernel_rfl) (fun _ _ _ h => h) (Or.inr ⟨by rfl, rfl⟩) (by assumption) ?_
        try simp only [Act.put, List.setIfInBounds_toArray, List.set_cons_zero, List.set_cons_succ]
        refine wpAnyH_take (i := 43) (oi := ({ dst := some 48, op := .unOp .not 4 (.tmp 47), type := 4, pos := "delta.go:57", after := #[{ on := 42, ground := .data }, { on := 37, ground := .guard }], guard := some (37, false) } : Oper)) (v := undef) rfl (by kernel_rfl) (by kernel_rfl) (by kernel_rfl) (fun _ _ _ h => h) (Or.inr ⟨by rfl, rfl⟩) (by assumption) ?_
        try simp only [Act.put, List.setIfInBounds_toArray, List.set_cons_zero, List.set_cons_succ]
        refine wpAnyH_take (i := 44) (oi := ({ dst := some 49, op := .pick (.tmp 42) (.const (.bool true)) (.tmp 48), type := 4, pos := "delta.go:57", after := #[{ on := 37, ground := .data }, { on := 43, ground := .data }], guard := none } : Oper)) (v := ?_) rfl (by kernel_rfl) (by kernel_rfl) (by kernel_rfl) (fun _ _ _ h => h) (Or.inl ⟨by rfl, ?_⟩) (by assumption) ?_
        rotate_left
        · (intro w hSw; (try dsimp only at hSw); go_simp; try with_reducible rfl)
        try simp only [Act.put, List.setIfInBounds_toArray, List.set_cons_zero, List.set_cons_succ]
        refine wpAnyH_done (by kernel_rfl) ?_ _
        refine NoPanic.normal ?_
        skip
        go_wp2_with fail
        go_returns
        exact ⟨by rw [HNO.out]; rfl, k0.trans' ke⟩
      have d4 : decide (2048 < (n : Int)) = false := decide_eq_false (by omega)
      clear d3'
      obtain ⟨V, rfl⟩ : ∃ V : Nat, wd = V := ⟨wd.toNat, by omega⟩
      have htn : ((V : Int)).toNat = V := by omega
      cases h5 : noB bse V with
      | false =>
        have NAR := Lib.hid (fun W => by have := narrow_any bse V W lb (by omega); rwa [h5] at this : ∀ W, Calls Try.prog 76 #[.agg (bs bse).toArray, .int .i64 (V : Nat)] W fun e w' => e = .returned (.bool false) ∧ Keep [] W w')
        have HNO := Lib.hid (show ans = false by rw [← HANS.out, HMO.out, htn, h5]; simp only [Bool.false_and, Bool.and_false])
        clear HANS HMO
        refine wp_region_noPanic ?_
        refine wp_region_held_drew (S := fun w' => Blk w' b cs 29) (by kernel_rfl) ?_ (fun hHeld0 => ?_)
        · (try dsimp only); exact B0.keep ke (by simp)
        refine wpAnyH_take (i := 0) (oi := ({ dst := some 5, op := .fieldAddr 29 (.tmp 1) 0, type := 0, pos := "delta.go:57", after := #[], guard := none } : Oper)) (v := ?_) rfl (by kernel_rfl) (by kernel_rfl) (by kernel_rfl) (fun _ _ _ h => h) (Or.inl ⟨by rfl, ?_⟩) (by assumption) ?_
        rotate_left
        · (intro w hSw; (try dsimp only at hSw); go_simp; try with_reducible rfl)
        try simp only [Act.put, List.setIfInBounds_toArray, List.set_cons_zero, List.set_cons_succ]
        refine wpAnyH_take (i := 1) (oi := ({ dst := some 6, op := .load 3 (.tmp 5), type := 3, pos := "delta.go:57", after := #[{ on := 0, ground := .data }], guard := none } : Oper)) (v := ?_) rfl (by kernel_rfl) (by kernel_rfl) (by kernel_rfl) (fun _ _ _ h => h) (Or.inl ⟨by rfl, ?_⟩) (by assumption) ?_
        rotate_left
        · (intro w hSw; (try dsimp only at hSw); have q1 := HB.out.1 _ hSw; go_simp; try with_reducible rfl)
        try simp only [Act.put, List.setIfInBounds_toArray, List.set_cons_zero, List.set_cons_succ]
        refine wpAnyH_ready (rs := [2]) (by kernel_rfl) (by simp) ?_
        refine (AllReadyH.cons (o := ({ dst := some 7, op := .call { callee := .value (.func 41), args := #[.tmp 6], argTypes := #[3] }, type := 4, pos := "delta.go:57", after := #[{ on := 1, ground := .data }], guard := none } : Oper)) rfl (fun K hK => ?_) AllReadyH.nil)
        go_simp
        (refine (width_k _ _).mono ?_; rintro e w' ⟨rfl, kn⟩; have ke := ke.trans' kn; rw [hw1])
        go_wp2_with fail
        refine hK.out _ _ ?_ (fun hHeld1 => ?_)
        · (try dsimp only); exact B0.keep ke (by simp)
        clear hK K
        try simp only [Act.put, List.setIfInBounds_toArray, List.set_cons_zero, List.set_cons_succ]
        refine wpAnyH_take (i := 3) (oi := ({ dst := some 8, op := .unOp .not 4 (.tmp 7), type := 4, pos := "delta.go:57", after := #[{ on := 2, ground := .data }], guard := none } : Oper)) (v := ?_) rfl (by kernel_rfl) (by kernel_rfl) (by kernel_rfl) (fun _ _ _ h => h) (Or.inl ⟨by rfl, ?_⟩) (by assumption) ?_
        rotate_left
        · (intro w hSw; (try dsimp only at hSw); go_simp; try with_reducible rfl)
        try simp only [Act.put, List.setIfInBounds_toArray, List.set_cons_zero, List.set_cons_succ]
        refine wpAnyH_take (i := 4) (oi := ({ dst := some 9, op := .move (.tmp 8), type := 4, pos := "delta.go:57", after := #[{ on := 3, ground := .data }, { on := 2, ground := .chain }], guard := none } : Oper)) (v := ?_) rfl (by kernel_rfl) (by kernel_rfl) (by kernel_rfl) (fun _ _ _ h => h) (Or.inl ⟨by rfl, ?_⟩) (by assumption) ?_
        rotate_left
        · (intro w hSw; (try dsimp only at hSw); go_simp; try with_reducible rfl)
        try simp only [Act.put, List.setIfInBounds_toArray, List.set_cons_zero, List.set_cons_succ]
        refine wpAnyH_take (i := 5) (oi := ({ dst := some 10, op := .fieldAddr 29 (.tmp 1) 1, type := 0, pos := "delta.go:57", after := #[{ on := 4, ground := .guard }], guard := some (4, false) } : Oper)) (v := ?_) rfl (by kernel_rfl) (by kernel_rfl) (by kernel_rfl) (fun _ _ _ h => h) (Or.inl ⟨by rfl, ?_⟩) (by assumption) ?_
        rotate_left
        · (intro w hSw; (try dsimp only at hSw); go_simp; try with_reducible rfl)
        try simp only [Act.put, List.setIfInBounds_toArray, List.set_cons_zero, List.set_cons_succ]
        refine wpAnyH_take (i := 6) (oi := ({ dst := some 11, op := .load 3 (.tmp 10), type := 3, pos := "delta.go:57", after := #[{ on := 5, ground := .data }, { on := 4, ground := .guard }], guard := some (4, false) } : Oper)) (v := ?_) rfl (by kernel_rfl) (by kernel_rfl) (by kernel_rfl) (fun _ _ _ h => h) (Or.inl ⟨by rfl, ?_⟩) (by assumption) ?_
        rotate_left
        · (intro w hSw; (try dsimp only at hSw); have q1 := HB.out.2.1 _ hSw; go_simp; try with_reducible rfl)
        try simp only [Act.put, List.setIfInBounds_toArray, List.set_cons_zero, List.set_cons_succ]
        refine wpAnyH_ready (rs := [7]) (by kernel_rfl) (by simp) ?_
        refine (AllReadyH.cons (o := ({ dst := some 12, op := .call { callee := .value (.func 42), args := #[.tmp 11], argTypes := #[3] }, type := 4, pos := "delta.go:57", after := #[{ on := 6, ground := .data }, { on := 4, ground := .chain }, { on := 4, ground := .guard }], guard := some (4, false) } : Oper)) rfl (fun K hK => ?_) AllReadyH.nil)
        go_simp
        (refine (size_k _ _).mono ?_; rintro e w' ⟨rfl, kn⟩; have ke := ke.trans' kn; rw [hs1])
        go_wp2_with fail
        refine hK.out _ _ ?_ (fun hHeld2 => ?_)
        · (try dsimp only); exact B0.keep ke (by simp)
        clear hK K
        try simp only [Act.put, List.setIfInBounds_toArray, List.set_cons_zero, List.set_cons_succ]
        refine wpAnyH_take (i := 8) (oi := ({ dst := some 13, op := .unOp .not 4 (.tmp 12), type := 4, pos := "delta.go:57", after := #[{ on := 7, ground := .data }, { on := 4, ground := .guard }], guard := some (4, false) } : Oper)) (v := ?_) rfl (by kernel_rfl) (by kernel_rfl) (by kernel_rfl) (fun _ _ _ h => h) (Or.inl ⟨by rfl, ?_⟩) (by assumption) ?_
        rotate_left
        · (intro w hSw; (try dsimp only at hSw); go_simp; try with_reducible rfl)
        try simp only [Act.put, List.setIfInBounds_toArray, List.set_cons_zero, List.set_cons_succ]
        refine wpAnyH_take (i := 9) (oi := ({ dst := some 14, op := .pick (.tmp 9) (.const (.bool true)) (.tmp 13), type := 4, pos := "delta.go:57", after := #[{ on := 4, ground := .data }, { on := 8, ground := .data }], guard := none } : Oper)) (v := ?_) rfl (by kernel_rfl) (by kernel_rfl) (by kernel_rfl) (fun _ _ _ h => h) (Or.inl ⟨by rfl, ?_⟩) (by assumption) ?_
        rotate_left
        · (intro w hSw; (try dsimp only at hSw); go_simp; try with_reducible rfl)
        try simp only [Act.put, List.setIfInBounds_toArray, List.set_cons_zero, List.set_cons_succ]
        refine wpAnyH_take (i := 10) (oi := ({ dst := some 15, op := .move (.tmp 14), type := 4, pos := "delta.go:57", after := #[{ on := 9, ground := .data }, { on := 7, ground := .chain }], guard := none } : Oper)) (v := ?_) rfl (by kernel_rfl) (by kernel_rfl) (by kernel_rfl) (fun _ _ _ h => h) (Or.inl ⟨by rfl, ?_⟩) (by assumption) ?_
        rotate_left
        · (intro w hSw; (try dsimp only at hSw); go_simp; try with_reducible rfl)
        try simp only [Act.put, List.setIfInBounds_toArray, List.set_cons_zero, List.set_cons_succ]
        refine wpAnyH_take (i := 11) (oi := ({ dst := some 16, op := .fieldAddr 29 (.tmp 1) 2, type := 0, pos := "delta.go:57", after := #[{ on := 10, ground := .guard }], guard := some (10, false) } : Oper)) (v := ?_) rfl (by kernel_rfl) (by kernel_rfl) (by kernel_rfl) (fun _ _ _ h => h) (Or.inl ⟨by rfl, ?_⟩) (by assumption) ?_
        rotate_left
        · (intro w hSw; (try dsimp only at hSw); go_simp; try with_reducible rfl)
        try simp only [Act.put, List.setIfInBounds_toArray, List.set_cons_zero, List.set_cons_succ]
        refine wpAnyH_take (i := 12) (oi := ({ dst := some 17, op := .load 3 (.tmp 16), type := 3, pos := "delta.go:57", after := #[{ on := 11, ground := .data }, { on := 10, ground := .guard }], guard := some (10, false) } : Oper)) (v := ?_) rfl (by kernel_rfl) (by kernel_rfl) (by kernel_rfl) (fun _ _ _ h => h) (Or.inl ⟨by rfl, ?_⟩) (by assumption) ?_
        rotate_left
        · (intro w hSw; (try dsimp only at hSw); have q1 := HB.out.2.2.1 _ hSw; go_simp; try with_reducible rfl)
        try simp only [Act.put, List.setIfInBounds_toArray, List.set_cons_zero, List.set_cons_succ]
        refine wpAnyH_take (i := 13) (oi := ({ dst := some 18, op := .binOp .lss 3 (.tmp 17) (.const (.int .i64 0)) 3, type := 4, pos := "delta.go:57", after := #[{ on := 12, ground := .data }, { on := 10, ground := .guard }], guard := some (10, false) } : Oper)) (v := ?_) rfl (by kernel_rfl) (by kernel_rfl) (by kernel_rfl) (fun _ _ _ h => h) (Or.inl ⟨by rfl, ?_⟩) (by assumption) ?_
        rotate_left
        · (intro w hSw; (try dsimp only at hSw); go_simp; try with_reducible rfl)
        try simp only [Act.put, List.setIfInBounds_toArray, List.set_cons_zero, List.set_cons_succ]
        refine wpAnyH_take (i := 14) (oi := ({ dst := some 19, op := .pick (.tmp 15) (.const (.bool true)) (.tmp 18), type := 4, pos := "delta.go:57", after := #[{ on := 10, ground := .data }, { on := 13, ground := .data }], guard := none } : Oper)) (v := ?_) rfl (by kernel_rfl) (by kernel_rfl) (by kernel_rfl) (fun _ _ _ h => h) (Or.inl ⟨by rfl, ?_⟩) (by assumption) ?_
        rotate_left
        · (intro w hSw; (try dsimp only at hSw); go_simp; try with_reducible rfl)
        try simp only [Act.put, List.setIfInBounds_toArray, List.set_cons_zero, List.set_cons_succ]
        refine wpAnyH_take (i := 15) (oi := ({ dst := some 20, op := .move (.tmp 19), type := 4, pos := "delta.go:57", after := #[{ on := 14, ground := .data }, { on := 10, ground := .chain }], guard := none } : Oper)) (v := ?_) rfl (by kernel_rfl) (by kernel_rfl) (by kernel_rfl) (fun _ _ _ h => h) (Or.inl ⟨by rfl, ?_⟩) (by assumption) ?_
        rotate_left
        · (intro w hSw; (try dsimp only at hSw); go_simp; try with_reducible rfl)
        try simp only [Act.put, List.setIfInBounds_toArray, List.set_cons_zero, List.set_cons_succ]
        refine wpAnyH_take (i := 16) (oi := ({ dst := some 21, op := .fieldAddr 29 (.tmp 1) 2, type := 0, pos := "delta.go:57", after := #[{ on := 15, ground := .guard }], guard := some (15, false) } : Oper)) (v := ?_) rfl (by kernel_rfl) (by kernel_rfl) (by kernel_rfl) (fun _ _ _ h => h) (Or.inl ⟨by rfl, ?_⟩) (by assumption) ?_
        rotate_left
        · (intro w hSw; (try dsimp only at hSw); go_simp; try with_reducible rfl)
        try simp only [Act.put, List.setIfInBounds_toArray, List.set_cons_zero, List.set_cons_succ]
        refine wpAnyH_take (i := 17) (oi := ({ dst := some 22, op := .load 3 (.tmp 21), type := 3, pos := "delta.go:57", after := #[{ on := 16, ground := .data }, { on := 15, ground := .guard }], guard := some (15, false) } : Oper)) (v := ?_) rfl (by kernel_rfl) (by kernel_rfl) (by kernel_rfl) (fun _ _ _ h => h) (Or.inl ⟨by rfl, ?_⟩) (by assumption) ?_
        rotate_left
        · (intro w hSw; (try dsimp only at hSw); have q1 := HB.out.2.2.1 _ hSw; go_simp; try with_reducible rfl)
        try simp only [Act.put, List.setIfInBounds_toArray, List.set_cons_zero, List.set_cons_succ]
        refine wpAnyH_take (i := 18) (oi := ({ dst := some 23, op := .binOp .gtr 3 (.tmp 22) (.const (.int .i64 131072)) 3, type := 4, pos := "delta.go:57", after := #[{ on := 17, ground := .data }, { on := 15, ground := .guard }], guard := some (15, false) } : Oper)) (v := ?_) rfl (by kernel_rfl) (by kernel_rfl) (by kernel_rfl) (fun _ _ _ h => h) (Or.inl ⟨by rfl, ?_⟩) (by assumption) ?_
        rotate_left
        · (intro w hSw; (try dsimp only at hSw); go_simp; try with_reducible rfl)
        try simp only [Act.put, List.setIfInBounds_toArray, List.set_cons_zero, List.set_cons_succ]
        refine wpAnyH_take (i := 19) (oi := ({ dst := some 24, op := .pick (.tmp 20) (.const (.bool true)) (.tmp 23), type := 4, pos := "delta.go:57", after := #[{ on := 15, ground := .data }, { on := 18, ground := .data }], guard := none } : Oper)) (v := ?_) rfl (by kernel_rfl) (by kernel_rfl) (by kernel_rfl) (fun _ _ _ h => h) (Or.inl ⟨by rfl, ?_⟩) (by assumption) ?_
        rotate_left
        · (intro w hSw; (try dsimp only at hSw); go_simp; try with_reducible rfl)
        try simp only [Act.put, List.setIfInBounds_toArray, List.set_cons_zero, List.set_cons_succ]
        refine wpAnyH_take (i := 20) (oi := ({ dst := some 25, op := .move (.tmp 24), type := 4, pos := "delta.go:57", after := #[{ on := 19, ground := .data }, { on := 15, ground := .chain }], guard := none } : Oper)) (v := ?_) rfl (by kernel_rfl) (by kernel_rfl) (by kernel_rfl) (fun _ _ _ h => h) (Or.inl ⟨by rfl, ?_⟩) (by assumption) ?_
        rotate_left
        · (intro w hSw; (try dsimp only at hSw); go_simp; try with_reducible rfl)
        try simp only [Act.put, List.setIfInBounds_toArray, List.set_cons_zero, List.set_cons_succ]
        refine wpAnyH_take (i := 21) (oi := ({ dst := some 26, op := .fieldAddr 29 (.tmp 1) 4, type := 0, pos := "delta.go:57", after := #[{ on := 20, ground := .guard }], guard := some (20, false) } : Oper)) (v := ?_) rfl (by kernel_rfl) (by kernel_rfl) (by kernel_rfl) (fun _ _ _ h => h) (Or.inl ⟨by rfl, ?_⟩) (by assumption) ?_
        rotate_left
        · (intro w hSw; (try dsimp only at hSw); go_simp; try with_reducible rfl)
        try simp only [Act.put, List.setIfInBounds_toArray, List.set_cons_zero, List.set_cons_succ]
        refine wpAnyH_take (i := 22) (oi := ({ dst := some 27, op := .load 27 (.tmp 26), type := 27, pos := "delta.go:57", after := #[{ on := 21, ground := .data }, { on := 20, ground := .guard }], guard := some (20, false) } : Oper)) (v := ?_) rfl (by kernel_rfl) (by kernel_rfl) (by kernel_rfl) (fun _ _ _ h => h) (Or.inl ⟨by rfl, ?_⟩) (by assumption) ?_
        rotate_left
        · (intro w hSw; (try dsimp only at hSw); have q1 := HB.out.2.2.2.1 _ hSw; go_simp; try with_reducible rfl)
        try simp only [Act.put, List.setIfInBounds_toArray, List.set_cons_zero, List.set_cons_succ]
        refine wpAnyH_take (i := 23) (oi := ({ dst := some 28, op := .call { callee := .builtin .len, args := #[.tmp 27], argTypes := #[27] }, type := 3, pos := "delta.go:57", after := #[{ on := 22, ground := .data }, { on := 20, ground := .guard }], guard := some (20, false) } : Oper)) (v := ?_) rfl (by kernel_rfl) (by kernel_rfl) (by kernel_rfl) (fun _ _ _ h => h) (Or.inl ⟨by rfl, ?_⟩) (by assumption) ?_
        rotate_left
        · (intro w hSw; (try dsimp only at hSw); go_simp; try with_reducible rfl)
        try simp only [Act.put, List.setIfInBounds_toArray, List.set_cons_zero, List.set_cons_succ]
        refine wpAnyH_take (i := 24) (oi := ({ dst := some 29, op := .fieldAddr 29 (.tmp 1) 2, type := 0, pos := "delta.go:57", after := #[{ on := 20, ground := .guard }], guard := some (20, false) } : Oper)) (v := ?_) rfl (by kernel_rfl) (by kernel_rfl) (by kernel_rfl) (fun _ _ _ h => h) (Or.inl ⟨by rfl, ?_⟩) (by assumption) ?_
        rotate_left
        · (intro w hSw; (try dsimp only at hSw); go_simp; try with_reducible rfl)
        try simp only [Act.put, List.setIfInBounds_toArray, List.set_cons_zero, List.set_cons_succ]
        refine wpAnyH_take (i := 25) (oi := ({ dst := some 30, op := .load 3 (.tmp 29), type := 3, pos := "delta.go:57", after := #[{ on := 24, ground := .data }, { on := 20, ground := .guard }], guard := some (20, false) } : Oper)) (v := ?_) rfl (by kernel_rfl) (by kernel_rfl) (by kernel_rfl) (fun _ _ _ h => h) (Or.inl ⟨by rfl, ?_⟩) (by assumption) ?_
        rotate_left
        · (intro w hSw; (try dsimp only at hSw); have q1 := HB.out.2.2.1 _ hSw; go_simp; try with_reducible rfl)
        try simp only [Act.put, List.setIfInBounds_toArray, List.set_cons_zero, List.set_cons_succ]
        refine wpAnyH_take (i := 26) (oi := ({ dst := some 31, op := .fieldAddr 29 (.tmp 1) 1, type := 0, pos := "delta.go:57", after := #[{ on := 20, ground := .guard }], guard := some (20, false) } : Oper)) (v := ?_) rfl (by kernel_rfl) (by kernel_rfl) (by kernel_rfl) (fun _ _ _ h => h) (Or.inl ⟨by rfl, ?_⟩) (by assumption) ?_
        rotate_left
        · (intro w hSw; (try dsimp only at hSw); go_simp; try with_reducible rfl)
        try simp only [Act.put, List.setIfInBounds_toArray, List.set_cons_zero, List.set_cons_succ]
        refine wpAnyH_take (i := 27) (oi := ({ dst := some 32, op := .load 3 (.tmp 31), type := 3, pos := "delta.go:57", after := #[{ on := 26, ground := .data }, { on := 20, ground := .guard }], guard := some (20, false) } : Oper)) (v := ?_) rfl (by kernel_rfl) (by kernel_rfl) (by kernel_rfl) (fun _ _ _ h => h) (Or.inl ⟨by rfl, ?_⟩) (by assumption) ?_
        rotate_left
        · (intro w hSw; (try dsimp only at hSw); have q1 := HB.out.2.1 _ hSw; go_simp; try with_reducible rfl)
        try simp only [Act.put, List.setIfInBounds_toArray, List.set_cons_zero, List.set_cons_succ]
        refine wpAnyH_take (i := 28) (oi := ({ dst := some 33, op := .binOp .quo 3 (.tmp 30) (.tmp 32) 3, type := 3, pos := "delta.go:57", after := #[{ on := 25, ground := .data }, { on := 27, ground := .data }, { on := 20, ground := .guard }], guard := some (20, false) } : Oper)) (v := ?_) rfl (by kernel_rfl) (by kernel_rfl) (by kernel_rfl) (fun _ _ _ h => h) (Or.inl ⟨by rfl, ?_⟩) (by assumption) ?_
        rotate_left
        · (intro w hSw; (try dsimp only at hSw); go_simp; try with_reducible rfl)
        try simp only [Act.put, List.setIfInBounds_toArray, List.set_cons_zero, List.set_cons_succ]
        refine wpAnyH_take (i := 29) (oi := ({ dst := some 34, op := .binOp .neq 3 (.tmp 28) (.tmp 33) 3, type := 4, pos := "delta.go:57", after := #[{ on := 23, ground := .data }, { on := 28, ground := .data }, { on := 20, ground := .guard }], guard := some (20, false) } : Oper)) (v := ?_) rfl (by kernel_rfl) (by kernel_rfl) (by kernel_rfl) (fun _ _ _ h => h) (Or.inl ⟨by rfl, ?_⟩) (by assumption) ?_
        rotate_left
        · (intro w hSw; (try dsimp only at hSw); go_simp; try with_reducible rfl)
        try simp only [Act.put, List.setIfInBounds_toArray, List.set_cons_zero, List.set_cons_succ]
        refine wpAnyH_take (i := 30) (oi := ({ dst := some 35, op := .pick (.tmp 25) (.const (.bool true)) (.tmp 34), type := 4, pos := "delta.go:57", after := #[{ on := 20, ground := .data }, { on := 29, ground := .data }], guard := none } : Oper)) (v := ?_) rfl (by kernel_rfl) (by kernel_rfl) (by kernel_rfl) (fun _ _ _ h => h) (Or.inl ⟨by rfl, ?_⟩) (by assumption) ?_
        rotate_left
        · (intro w hSw; (try dsimp only at hSw); go_simp; try with_reducible rfl)
        try simp only [Act.put, List.setIfInBounds_toArray, List.set_cons_zero, List.set_cons_succ]
        refine wpAnyH_take (i := 31) (oi := ({ dst := some 36, op := .move (.tmp 35), type := 4, pos := "delta.go:57", after := #[{ on := 30, ground := .data }, { on := 20, ground := .chain }], guard := none } : Oper)) (v := ?_) rfl (by kernel_rfl) (by kernel_rfl) (by kernel_rfl) (fun _ _ _ h => h) (Or.inl ⟨by rfl, ?_⟩) (by assumption) ?_
        rotate_left
        · (intro w hSw; (try dsimp only at hSw); go_simp; try with_reducible rfl)
        try simp only [Act.put, List.setIfInBounds_toArray, List.set_cons_zero, List.set_cons_succ]
        refine wpAnyH_take (i := 32) (oi := ({ dst := some 37, op := .fieldAddr 29 (.tmp 1) 4, type := 0, pos := "delta.go:57", after := #[{ on := 31, ground := .guard }], guard := some (31, false) } : Oper)) (v := ?_) rfl (by kernel_rfl) (by kernel_rfl) (by kernel_rfl) (fun _ _ _ h => h) (Or.inl ⟨by rfl, ?_⟩) (by assumption) ?_
        rotate_left
        · (intro w hSw; (try dsimp only at hSw); go_simp; try with_reducible rfl)
        try simp only [Act.put, List.setIfInBounds_toArray, List.set_cons_zero, List.set_cons_succ]
        refine wpAnyH_take (i := 33) (oi := ({ dst := some 38, op := .load 27 (.tmp 37), type := 27, pos := "delta.go:57", after := #[{ on := 32, ground := .data }, { on := 31, ground := .guard }], guard := some (31, false) } : Oper)) (v := ?_) rfl (by kernel_rfl) (by kernel_rfl) (by kernel_rfl) (fun _ _ _ h => h) (Or.inl ⟨by rfl, ?_⟩) (by assumption) ?_
        rotate_left
        · (intro w hSw; (try dsimp only at hSw); have q1 := HB.out.2.2.2.1 _ hSw; go_simp; try with_reducible rfl)
        try simp only [Act.put, List.setIfInBounds_toArray, List.set_cons_zero, List.set_cons_succ]
        refine wpAnyH_take (i := 34) (oi := ({ dst := some 39, op := .call { callee := .builtin .len, args := #[.tmp 38], argTypes := #[27] }, type := 3, pos := "delta.go:57", after := #[{ on := 33, ground := .data }, { on := 31, ground := .guard }], guard := some (31, false) } : Oper)) (v := ?_) rfl (by kernel_rfl) (by kernel_rfl) (by kernel_rfl) (fun _ _ _ h => h) (Or.inl ⟨by rfl, ?_⟩) (by assumption) ?_
        rotate_left
        · (intro w hSw; (try dsimp only at hSw); go_simp; try with_reducible rfl)
        try simp only [Act.put, List.setIfInBounds_toArray, List.set_cons_zero, List.set_cons_succ]
        refine wpAnyH_take (i := 35) (oi := ({ dst := some 40, op := .binOp .gtr 3 (.tmp 39) (.const (.int .i64 2048)) 3, type := 4, pos := "delta.go:57", after := #[{ on := 34, ground := .data }, { on := 31, ground := .guard }], guard := some (31, false) } : Oper)) (v := ?_) rfl (by kernel_rfl) (by kernel_rfl) (by kernel_rfl) (fun _ _ _ h => h) (Or.inl ⟨by rfl, ?_⟩) (by assumption) ?_
        rotate_left
        · (intro w hSw; (try dsimp only at hSw); go_simp; try with_reducible rfl)
        try simp only [Act.put, List.setIfInBounds_toArray, List.set_cons_zero, List.set_cons_succ]
        refine wpAnyH_take (i := 36) (oi := ({ dst := some 41, op := .pick (.tmp 36) (.const (.bool true)) (.tmp 40), type := 4, pos := "delta.go:57", after := #[{ on := 31, ground := .data }, { on := 35, ground := .data }], guard := none } : Oper)) (v := ?_) rfl (by kernel_rfl) (by kernel_rfl) (by kernel_rfl) (fun _ _ _ h => h) (Or.inl ⟨by rfl, ?_⟩) (by assumption) ?_
        rotate_left
        · (intro w hSw; (try dsimp only at hSw); go_simp; try with_reducible rfl)
        try simp only [Act.put, List.setIfInBounds_toArray, List.set_cons_zero, List.set_cons_succ]
        refine wpAnyH_take (i := 37) (oi := ({ dst := some 42, op := .move (.tmp 41), type := 4, pos := "delta.go:57", after := #[{ on := 36, ground := .data }, { on := 31, ground := .chain }], guard := none } : Oper)) (v := ?_) rfl (by kernel_rfl) (by kernel_rfl) (by kernel_rfl) (fun _ _ _ h => h) (Or.inl ⟨by rfl, ?_⟩) (by assumption) ?_
        rotate_left
        · (intro w hSw; (try dsimp only at hSw); go_simp; try with_reducible rfl)
        try simp only [Act.put, List.setIfInBounds_toArray, List.set_cons_zero, List.set_cons_succ]
        refine wpAnyH_take (i := 38) (oi := ({ dst := some 43, op := .fieldAddr 29 (.tmp 1) 3, type := 0, pos := "delta.go:57", after := #[{ on := 37, ground := .guard }], guard := some (37, false) } : Oper)) (v := ?_) rfl (by kernel_rfl) (by kernel_rfl) (by kernel_rfl) (fun _ _ _ h => h) (Or.inl ⟨by rfl, ?_⟩) (by assumption) ?_
        rotate_left
        · (intro w hSw; (try dsimp only at hSw); go_simp; try with_reducible rfl)
        try simp only [Act.put, List.setIfInBounds_toArray, List.set_cons_zero, List.set_cons_succ]
        refine wpAnyH_take (i := 39) (oi := ({ dst := some 44, op := .load 26 (.tmp 43), type := 26, pos := "delta.go:57", after := #[{ on := 38, ground := .data }, { on := 37, ground := .guard }], guard := some (37, false) } : Oper)) (v := .agg (List.toArray (bs bse))) rfl (by kernel_rfl) (by kernel_rfl) (by kernel_rfl) (fun _ _ _ h => h) (yieldsIf_load_mid (by rfl) _ _ rfl _ _ rfl (bs bse) _ (fun w hSw => HB.out.2.2.2.2 _ hSw) Try.underlying26 rfl hi6) (by assumption) ?_
        try simp only [Act.put, List.setIfInBounds_toArray, List.set_cons_zero, List.set_cons_succ]
        refine wpAnyH_take (i := 40) (oi := ({ dst := some 45, op := .fieldAddr 29 (.tmp 1) 0, type := 0, pos := "delta.go:57", after := #[{ on := 37, ground := .guard }], guard := some (37, false) } : Oper)) (v := ?_) rfl (by kernel_rfl) (by kernel_rfl) (by kernel_rfl) (fun _ _ _ h => h) (Or.inl ⟨by rfl, ?_⟩) (by assumption) ?_
        rotate_left
        · (intro w hSw; (try dsimp only at hSw); go_simp; try with_reducible rfl)
        try simp only [Act.put, List.setIfInBounds_toArray, List.set_cons_zero, List.set_cons_succ]
        refine wpAnyH_take (i := 41) (oi := ({ dst := some 46, op := .load 3 (.tmp 45), type := 3, pos := "delta.go:57", after := #[{ on := 40, ground := .data }, { on := 37, ground := .guard }], guard := some (37, false) } : Oper)) (v := ?_) rfl (by kernel_rfl) (by kernel_rfl) (by kernel_rfl) (fun _ _ _ h => h) (Or.inl ⟨by rfl, ?_⟩) (by assumption) ?_
        rotate_left
        · (intro w hSw; (try dsimp only at hSw); have q1 := HB.out.1 _ hSw; go_simp; try with_reducible rfl)
        try simp only [Act.put, List.setIfInBounds_toArray, List.set_cons_zero, List.set_cons_succ]
        refine wpAnyH_ready (rs := [42]) (by kernel_rfl) (by simp) ?_
        refine (AllReadyH.cons (o := ({ dst := some 47, op := .call { callee := .value (.func 76), args := #[.tmp 44, .tmp 46], argTypes := #[26, 3] }, type := 4, pos := "delta.go:57", after := #[{ on := 39, ground := .data }, { on := 41, ground := .data }, { on := 37, ground := .chain }, { on := 37, ground := .guard }], guard := some (37, false) } : Oper)) rfl (fun K hK => ?_) AllReadyH.nil)
        go_simp
        (refine (NAR.out _).mono ?_; rintro e w' ⟨rfl, kn⟩; have ke := ke.trans' kn)
        go_wp2_with fail
        refine hK.out _ _ ?_ (fun hHeld3 => ?_)
        · (try dsimp only); exact B0.keep ke (by simp)
        clear hK K
        try simp only [Act.put, List.setIfInBounds_toArray, List.set_cons_zero, List.set_cons_succ]
        refine wpAnyH_take (i := 43) (oi := ({ dst := some 48, op := .unOp .not 4 (.tmp 47), type := 4, pos := "delta.go:57", after := #[{ on := 42, ground := .data }, { on := 37, ground := .guard }], guard := some (37, false) } : Oper)) (v := ?_) rfl (by kernel_rfl) (by kernel_rfl) (by kernel_rfl) (fun _ _ _ h => h) (Or.inl ⟨by rfl, ?_⟩) (by assumption) ?_
        rotate_left
        · (intro w hSw; (try dsimp only at hSw); go_simp; try with_reducible rfl)
        try simp only [Act.put, List.setIfInBounds_toArray, List.set_cons_zero, List.set_cons_succ]
        refine wpAnyH_take (i := 44) (oi := ({ dst := some 49, op := .pick (.tmp 42) (.const (.bool true)) (.tmp 48), type := 4, pos := "delta.go:57", after := #[{ on := 37, ground := .data }, { on := 43, ground := .data }], guard := none } : Oper)) (v := ?_) rfl (by kernel_rfl) (by kernel_rfl) (by kernel_rfl) (fun _ _ _ h => h) (Or.inl ⟨by rfl, ?_⟩) (by assumption) ?_
        rotate_left
        · (intro w hSw; (try dsimp only at hSw); go_simp; try with_reducible rfl)
        try simp only [Act.put, List.setIfInBounds_toArray, List.set_cons_zero, List.set_cons_succ]
        refine wpAnyH_done (by kernel_rfl) ?_ _
        refine NoPanic.normal ?_
        skip
        go_wp2_with fail
        go_returns
        exact ⟨by rw [HNO.out]; rfl, k0.trans' ke⟩
      | true =>
        have NAR := Lib.hid (fun W => by have := narrow_any bse V W lb (by omega); rwa [h5] at this : ∀ W, Calls Try.prog 76 #[.agg (bs bse).toArray, .int .i64 (V : Nat)] W fun e w' => e = .returned (.bool true) ∧ Keep [] W w')
        have HALL := Lib.hid (show ans = bl.all (okK V) by rw [← HANS.out, HMO.out, hw1, hs1, decide_eq_true (show 0 ≤ ln ∧ ln ≤ 131072 by omega), HL.out, HQ.out, decide_eq_true HNQ.out, decide_eq_true (show n ≤ 2048 by omega), htn, h5]; simp only [Bool.true_and])
        clear HANS HMO
        refine wp_region_noPanic ?_
        refine wp_region_held_drew (S := fun w' => Blk w' b cs 29) (by kernel_rfl) ?_ (fun hHeld0 => ?_)
        · (try dsimp only); exact B0.keep ke (by simp)
        refine wpAnyH_take (i := 0) (oi := ({ dst := some 5, op := .fieldAddr 29 (.tmp 1) 0, type := 0, pos := "delta.go:57", after := #[], guard := none } : Oper)) (v := ?_) rfl (by kernel_rfl) (by kernel_rfl) (by kernel_rfl) (fun _ _ _ h => h) (Or.inl ⟨by rfl, ?_⟩) (by assumption) ?_
        rotate_left
        · (intro w hSw; (try dsimp only at hSw); go_simp; try with_reducible rfl)
        try simp only [Act.put, List.setIfInBounds_toArray, List.set_cons_zero, List.set_cons_succ]
        refine wpAnyH_take (i := 1) (oi := ({ dst := some 6, op := .load 3 (.tmp 5), type := 3, pos := "delta.go:57", after := #[{ on := 0, ground := .data }], guard := none } : Oper)) (v := ?_) rfl (by kernel_rfl) (by kernel_rfl) (by kernel_rfl) (fun _ _ _ h => h) (Or.inl ⟨by rfl, ?_⟩) (by assumption) ?_
        rotate_left
        · (intro w hSw; (try dsimp only at hSw); have q1 := HB.out.1 _ hSw; go_simp; try with_reducible rfl)
        try simp only [Act.put, List.setIfInBounds_toArray, List.set_cons_zero, List.set_cons_succ]
        refine wpAnyH_ready (rs := [2]) (by kernel_rfl) (by simp) ?_
        refine (AllReadyH.cons (o := ({ dst := some 7, op := .call { callee := .value (.func 41), args := #[.tmp 6], argTypes := #[3] }, type := 4, pos := "delta.go:57", after := #[{ on := 1, ground := .data }], guard := none } : Oper)) rfl (fun K hK => ?_) AllReadyH.nil)
        go_simp
        (refine (width_k _ _).mono ?_; rintro e w' ⟨rfl, kn⟩; have ke := ke.trans' kn; rw [hw1])
        go_wp2_with fail
        refine hK.out _ _ ?_ (fun hHeld1 => ?_)
        · (try dsimp only); exact B0.keep ke (by simp)
        clear hK K
        try simp only [Act.put, List.setIfInBounds_toArray, List.set_cons_zero, List.set_cons_succ]
        refine wpAnyH_take (i := 3) (oi := ({ dst := some 8, op := .unOp .not 4 (.tmp 7), type := 4, pos := "delta.go:57", after := #[{ on := 2, ground := .data }], guard := none } : Oper)) (v := ?_) rfl (by kernel_rfl) (by kernel_rfl) (by kernel_rfl) (fun _ _ _ h => h) (Or.inl ⟨by rfl, ?_⟩) (by assumption) ?_
        rotate_left
        · (intro w hSw; (try dsimp only at hSw); go_simp; try with_reducible rfl)
        try simp only [Act.put, List.setIfInBounds_toArray, List.set_cons_zero, List.set_cons_succ]
        refine wpAnyH_take (i := 4) (oi := ({ dst := some 9, op := .move (.tmp 8), type := 4, pos := "delta.go:57", after := #[{ on := 3, ground := .data }, { on := 2, ground := .chain }], guard := none } : Oper)) (v := ?_) rfl (by kernel_rfl) (by kernel_rfl) (by kernel_rfl) (fun _ _ _ h => h) (Or.inl ⟨by rfl, ?_⟩) (by assumption) ?_
        rotate_left
        · (intro w hSw; (try dsimp only at hSw); go_simp; try with_reducible rfl)
        try simp only [Act.put, List.setIfInBounds_toArray, List.set_cons_zero, List.set_cons_succ]
        refine wpAnyH_take (i := 5) (oi := ({ dst := some 10, op := .fieldAddr 29 (.tmp 1) 1, type := 0, pos := "delta.go:57", after := #[{ on := 4, ground := .guard }], guard := some (4, false) } : Oper)) (v := ?_) rfl (by kernel_rfl) (by kernel_rfl) (by kernel_rfl) (fun _ _ _ h => h) (Or.inl ⟨by rfl, ?_⟩) (by assumption) ?_
        rotate_left
        · (intro w hSw; (try dsimp only at hSw); go_simp; try with_reducible rfl)
        try simp only [Act.put, List.setIfInBounds_toArray, List.set_cons_zero, List.set_cons_succ]
        refine wpAnyH_take (i := 6) (oi := ({ dst := some 11, op := .load 3 (.tmp 10), type := 3, pos := "delta.go:57", after := #[{ on := 5, ground := .data }, { on := 4, ground := .guard }], guard := some (4, false) } : Oper)) (v := ?_) rfl (by kernel_rfl) (by kernel_rfl) (by kernel_rfl) (fun _ _ _ h => h) (Or.inl ⟨by rfl, ?_⟩) (by assumption) ?_
        rotate_left
        · (intro w hSw; (try dsimp only at hSw); have q1 := HB.out.2.1 _ hSw; go_simp; try with_reducible rfl)
        try simp only [Act.put, List.setIfInBounds_toArray, List.set_cons_zero, List.set_cons_succ]
        refine wpAnyH_ready (rs := [7]) (by kernel_rfl) (by simp) ?_
        refine (AllReadyH.cons (o := ({ dst := some 12, op := .call { callee := .value (.func 42), args := #[.tmp 11], argTypes := #[3] }, type := 4, pos := "delta.go:57", after := #[{ on := 6, ground := .data }, { on := 4, ground := .chain }, { on := 4, ground := .guard }], guard := some (4, false) } : Oper)) rfl (fun K hK => ?_) AllReadyH.nil)
        go_simp
        (refine (size_k _ _).mono ?_; rintro e w' ⟨rfl, kn⟩; have ke := ke.trans' kn; rw [hs1])
        go_wp2_with fail
        refine hK.out _ _ ?_ (fun hHeld2 => ?_)
        · (try dsimp only); exact B0.keep ke (by simp)
        clear hK K
        try simp only [Act.put, List.setIfInBounds_toArray, List.set_cons_zero, List.set_cons_succ]
        refine wpAnyH_take (i := 8) (oi := ({ dst := some 13, op := .unOp .not 4 (.tmp 12), type := 4, pos := "delta.go:57", after := #[{ on := 7, ground := .data }, { on := 4, ground := .guard }], guard := some (4, false) } : Oper)) (v := ?_) rfl (by kernel_rfl) (by kernel_rfl) (by kernel_rfl) (fun _ _ _ h => h) (Or.inl ⟨by rfl, ?_⟩) (by assumption) ?_
        rotate_left
        · (intro w hSw; (try dsimp only at hSw); go_simp; try with_reducible rfl)
        try simp only [Act.put, List.setIfInBounds_toArray, List.set_cons_zero, List.set_cons_succ]
        refine wpAnyH_take (i := 9) (oi := ({ dst := some 14, op := .pick (.tmp 9) (.const (.bool true)) (.tmp 13), type := 4, pos := "delta.go:57", after := #[{ on := 4, ground := .data }, { on := 8, ground := .data }], guard := none } : Oper)) (v := ?_) rfl (by kernel_rfl) (by kernel_rfl) (by kernel_rfl) (fun _ _ _ h => h) (Or.inl ⟨by rfl, ?_⟩) (by assumption) ?_
        rotate_left
        · (intro w hSw; (try dsimp only at hSw); go_simp; try with_reducible rfl)
        try simp only [Act.put, List.setIfInBounds_toArray, List.set_cons_zero, List.set_cons_succ]
        refine wpAnyH_take (i := 10) (oi := ({ dst := some 15, op := .move (.tmp 14), type := 4, pos := "delta.go:57", after := #[{ on := 9, ground := .data }, { on := 7, ground := .chain }], guard := none } : Oper)) (v := ?_) rfl (by kernel_rfl) (by kernel_rfl) (by kernel_rfl) (fun _ _ _ h => h) (Or.inl ⟨by rfl, ?_⟩) (by assumption) ?_
        rotate_left
        · (intro w hSw; (try dsimp only at hSw); go_simp; try with_reducible rfl)
        try simp only [Act.put, List.setIfInBounds_toArray, List.set_cons_zero, List.set_cons_succ]
        refine wpAnyH_take (i := 11) (oi := ({ dst := some 16, op := .fieldAddr 29 (.tmp 1) 2, type := 0, pos := "delta.go:57", after := #[{ on := 10, ground := .guard }], guard := some (10, false) } : Oper)) (v := ?_) rfl (by kernel_rfl) (by kernel_rfl) (by kernel_rfl) (fun _ _ _ h => h) (Or.inl ⟨by rfl, ?_⟩) (by assumption) ?_
        rotate_left
        · (intro w hSw; (try dsimp only at hSw); go_simp; try with_reducible rfl)
        try simp only [Act.put, List.setIfInBounds_toArray, List.set_cons_zero, List.set_cons_succ]
        refine wpAnyH_take (i := 12) (oi := ({ dst := some 17, op := .load 3 (.tmp 16), type := 3, pos := "delta.go:57", after := #[{ on := 11, ground := .data }, { on := 10, ground := .guard }], guard := some (10, false) } : Oper)) (v := ?_) rfl (by kernel_rfl) (by kernel_rfl) (by kernel_rfl) (fun _ _ _ h => h) (Or.inl ⟨by rfl, ?_⟩) (by assumption) ?_
        rotate_left
        · (intro w hSw; (try dsimp only at hSw); have q1 := HB.out.2.2.1 _ hSw; go_simp; try with_reducible rfl)
        try simp only [Act.put, List.setIfInBounds_toArray, List.set_cons_zero, List.set_cons_succ]
        refine wpAnyH_take (i := 13) (oi := ({ dst := some 18, op := .binOp .lss 3 (.tmp 17) (.const (.int .i64 0)) 3, type := 4, pos := "delta.go:57", after := #[{ on := 12, ground := .data }, { on := 10, ground := .guard }], guard := some (10, false) } : Oper)) (v := ?_) rfl (by kernel_rfl) (by kernel_rfl) (by kernel_rfl) (fun _ _ _ h => h) (Or.inl ⟨by rfl, ?_⟩) (by assumption) ?_
        rotate_left
        · (intro w hSw; (try dsimp only at hSw); go_simp; try with_reducible rfl)
        try simp only [Act.put, List.setIfInBounds_toArray, List.set_cons_zero, List.set_cons_succ]
        refine wpAnyH_take (i := 14) (oi := ({ dst := some 19, op := .pick (.tmp 15) (.const (.bool true)) (.tmp 18), type := 4, pos := "delta.go:57", after := #[{ on := 10, ground := .data }, { on := 13, ground := .data }], guard := none } : Oper)) (v := ?_) rfl (by kernel_rfl) (by kernel_rfl) (by kernel_rfl) (fun _ _ _ h => h) (Or.inl ⟨by rfl, ?_⟩) (by assumption) ?_
        rotate_left
        · (intro w hSw; (try dsimp only at hSw); go_simp; try with_reducible rfl)
        try simp only [Act.put, List.setIfInBounds_toArray, List.set_cons_zero, List.set_cons_succ]
        refine wpAnyH_take (i := 15) (oi := ({ dst := some 20, op := .move (.tmp 19), type := 4, pos := "delta.go:57", after := #[{ on := 14, ground := .data }, { on := 10, ground := .chain }], guard := none } : Oper)) (v := ?_) rfl (by kernel_rfl) (by kernel_rfl) (by kernel_rfl) (fun _ _ _ h => h) (Or.inl ⟨by rfl, ?_⟩) (by assumption) ?_
        rotate_left
        · (intro w hSw; (try dsimp only at hSw); go_simp; try with_reducible rfl)
        try simp only [Act.put, List.setIfInBounds_toArray, List.set_cons_zero, List.set_cons_succ]
        refine wpAnyH_take (i := 16) (oi := ({ dst := some 21, op := .fieldAddr 29 (.tmp 1) 2, type := 0, pos := "delta.go:57", after := #[{ on := 15, ground := .guard }], guard := some (15, false) } : Oper)) (v := ?_) rfl (by kernel_rfl) (by kernel_rfl) (by kernel_rfl) (fun _ _ _ h => h) (Or.inl ⟨by rfl, ?_⟩) (by assumption) ?_
        rotate_left
        · (intro w hSw; (try dsimp only at hSw); go_simp; try with_reducible rfl)
        try simp only [Act.put, List.setIfInBounds_toArray, List.set_cons_zero, List.set_cons_succ]
        refine wpAnyH_take (i := 17) (oi := ({ dst := some 22, op := .load 3 (.tmp 21), type := 3, pos := "delta.go:57", after := #[{ on := 16, ground := .data }, { on := 15, ground := .guard }], guard := some (15, false) } : Oper)) (v := ?_) rfl (by kernel_rfl) (by kernel_rfl) (by kernel_rfl) (fun _ _ _ h => h) (Or.inl ⟨by rfl, ?_⟩) (by assumption) ?_
        rotate_left
        · (intro w hSw; (try dsimp only at hSw); have q1 := HB.out.2.2.1 _ hSw; go_simp; try with_reducible rfl)
        try simp only [Act.put, List.setIfInBounds_toArray, List.set_cons_zero, List.set_cons_succ]
        refine wpAnyH_take (i := 18) (oi := ({ dst := some 23, op := .binOp .gtr 3 (.tmp 22) (.const (.int .i64 131072)) 3, type := 4, pos := "delta.go:57", after := #[{ on := 17, ground := .data }, { on := 15, ground := .guard }], guard := some (15, false) } : Oper)) (v := ?_) rfl (by kernel_rfl) (by kernel_rfl) (by kernel_rfl) (fun _ _ _ h => h) (Or.inl ⟨by rfl, ?_⟩) (by assumption) ?_
        rotate_left
        · (intro w hSw; (try dsimp only at hSw); go_simp; try with_reducible rfl)
        try simp only [Act.put, List.setIfInBounds_toArray, List.set_cons_zero, List.set_cons_succ]
        refine wpAnyH_take (i := 19) (oi := ({ dst := some 24, op := .pick (.tmp 20) (.const (.bool true)) (.tmp 23), type := 4, pos := "delta.go:57", after := #[{ on := 15, ground := .data }, { on := 18, ground := .data }], guard := none } : Oper)) (v := ?_) rfl (by kernel_rfl) (by kernel_rfl) (by kernel_rfl) (fun _ _ _ h => h) (Or.inl ⟨by rfl, ?_⟩) (by assumption) ?_
        rotate_left
        · (intro w hSw; (try dsimp only at hSw); go_simp; try with_reducible rfl)
        try simp only [Act.put, List.setIfInBounds_toArray, List.set_cons_zero, List.set_cons_succ]
        refine wpAnyH_take (i := 20) (oi := ({ dst := some 25, op := .move (.tmp 24), type := 4, pos := "delta.go:57", after := #[{ on := 19, ground := .data }, { on := 15, ground := .chain }], guard := none } : Oper)) (v := ?_) rfl (by kernel_rfl) (by kernel_rfl) (by kernel_rfl) (fun _ _ _ h => h) (Or.inl ⟨by rfl, ?_⟩) (by assumption) ?_
        rotate_left
        · (intro w hSw; (try dsimp only at hSw); go_simp; try with_reducible rfl)
        try simp only [Act.put, List.setIfInBounds_toArray, List.set_cons_zero, List.set_cons_succ]
        refine wpAnyH_take (i := 21) (oi := ({ dst := some 26, op := .fieldAddr 29 (.tmp 1) 4, type := 0, pos := "delta.go:57", after := #[{ on := 20, ground := .guard }], guard := some (20, false) } : Oper)) (v := ?_) rfl (by kernel_rfl) (by kernel_rfl) (by kernel_rfl) (fun _ _ _ h => h) (Or.inl ⟨by rfl, ?_⟩) (by assumption) ?_
        rotate_left
        · (intro w hSw; (try dsimp only at hSw); go_simp; try with_reducible rfl)
        try simp only [Act.put, List.setIfInBounds_toArray, List.set_cons_zero, List.set_cons_succ]
        refine wpAnyH_take (i := 22) (oi := ({ dst := some 27, op := .load 27 (.tmp 26), type := 27, pos := "delta.go:57", after := #[{ on := 21, ground := .data }, { on := 20, ground := .guard }], guard := some (20, false) } : Oper)) (v := ?_) rfl (by kernel_rfl) (by kernel_rfl) (by kernel_rfl) (fun _ _ _ h => h) (Or.inl ⟨by rfl, ?_⟩) (by assumption) ?_
        rotate_left
        · (intro w hSw; (try dsimp only at hSw); have q1 := HB.out.2.2.2.1 _ hSw; go_simp; try with_reducible rfl)
        try simp only [Act.put, List.setIfInBounds_toArray, List.set_cons_zero, List.set_cons_succ]
        refine wpAnyH_take (i := 23) (oi := ({ dst := some 28, op := .call { callee := .builtin .len, args := #[.tmp 27], argTypes := #[27] }, type := 3, pos := "delta.go:57", after := #[{ on := 22, ground := .data }, { on := 20, ground := .guard }], guard := some (20, false) } : Oper)) (v := ?_) rfl (by kernel_rfl) (by kernel_rfl) (by kernel_rfl) (fun _ _ _ h => h) (Or.inl ⟨by rfl, ?_⟩) (by assumption) ?_
        rotate_left
        · (intro w hSw; (try dsimp only at hSw); go_simp; try with_reducible rfl)
        try simp only [Act.put, List.setIfInBounds_toArray, List.set_cons_zero, List.set_cons_succ]
        refine wpAnyH_take (i := 24) (oi := ({ dst := some 29, op := .fieldAddr 29 (.tmp 1) 2, type := 0, pos := "delta.go:57", after := #[{ on := 20, ground := .guard }], guard := some (20, false) } : Oper)) (v := ?_) rfl (by kernel_rfl) (by kernel_rfl) (by kernel_rfl) (fun _ _ _ h => h) (Or.inl ⟨by rfl, ?_⟩) (by assumption) ?_
        rotate_left
        · (intro w hSw; (try dsimp only at hSw); go_simp; try with_reducible rfl)
        try simp only [Act.put, List.setIfInBounds_toArray, List.set_cons_zero, List.set_cons_succ]
        refine wpAnyH_take (i := 25) (oi := ({ dst := some 30, op := .load 3 (.tmp 29), type := 3, pos := "delta.go:57", after := #[{ on := 24, ground := .data }, { on := 20, ground := .guard }], guard := some (20, false) } : Oper)) (v := ?_) rfl (by kernel_rfl) (by kernel_rfl) (by kernel_rfl) (fun _ _ _ h => h) (Or.inl ⟨by rfl, ?_⟩) (by assumption) ?_
        rotate_left
        · (intro w hSw; (try dsimp only at hSw); have q1 := HB.out.2.2.1 _ hSw; go_simp; try with_reducible rfl)
        try simp only [Act.put, List.setIfInBounds_toArray, List.set_cons_zero, List.set_cons_succ]
        refine wpAnyH_take (i := 26) (oi := ({ dst := some 31, op := .fieldAddr 29 (.tmp 1) 1, type := 0, pos := "delta.go:57", after := #[{ on := 20, ground := .guard }], guard := some (20, false) } : Oper)) (v := ?_) rfl (by kernel_rfl) (by kernel_rfl) (by kernel_rfl) (fun _ _ _ h => h) (Or.inl ⟨by rfl, ?_⟩) (by assumption) ?_
        rotate_left
        · (intro w hSw; (try dsimp only at hSw); go_simp; try with_reducible rfl)
        try simp only [Act.put, List.setIfInBounds_toArray, List.set_cons_zero, List.set_cons_succ]
        refine wpAnyH_take (i := 27) (oi := ({ dst := some 32, op := .load 3 (.tmp 31), type := 3, pos := "delta.go:57", after := #[{ on := 26, ground := .data }, { on := 20, ground := .guard }], guard := some (20, false) } : Oper)) (v := ?_) rfl (by kernel_rfl) (by kernel_rfl) (by kernel_rfl) (fun _ _ _ h => h) (Or.inl ⟨by rfl, ?_⟩) (by assumption) ?_
        rotate_left
        · (intro w hSw; (try dsimp only at hSw); have q1 := HB.out.2.1 _ hSw; go_simp; try with_reducible rfl)
        try simp only [Act.put, List.setIfInBounds_toArray, List.set_cons_zero, List.set_cons_succ]
        refine wpAnyH_take (i := 28) (oi := ({ dst := some 33, op := .binOp .quo 3 (.tmp 30) (.tmp 32) 3, type := 3, pos := "delta.go:57", after := #[{ on := 25, ground := .data }, { on := 27, ground := .data }, { on := 20, ground := .guard }], guard := some (20, false) } : Oper)) (v := ?_) rfl (by kernel_rfl) (by kernel_rfl) (by kernel_rfl) (fun _ _ _ h => h) (Or.inl ⟨by rfl, ?_⟩) (by assumption) ?_
        rotate_left
        · (intro w hSw; (try dsimp only at hSw); go_simp; try with_reducible rfl)
        try simp only [Act.put, List.setIfInBounds_toArray, List.set_cons_zero, List.set_cons_succ]
        refine wpAnyH_take (i := 29) (oi := ({ dst := some 34, op := .binOp .neq 3 (.tmp 28) (.tmp 33) 3, type := 4, pos := "delta.go:57", after := #[{ on := 23, ground := .data }, { on := 28, ground := .data }, { on := 20, ground := .guard }], guard := some (20, false) } : Oper)) (v := ?_) rfl (by kernel_rfl) (by kernel_rfl) (by kernel_rfl) (fun _ _ _ h => h) (Or.inl ⟨by rfl, ?_⟩) (by assumption) ?_
        rotate_left
        · (intro w hSw; (try dsimp only at hSw); go_simp; try with_reducible rfl)
        try simp only [Act.put, List.setIfInBounds_toArray, List.set_cons_zero, List.set_cons_succ]
        refine wpAnyH_take (i := 30) (oi := ({ dst := some 35, op := .pick (.tmp 25) (.const (.bool true)) (.tmp 34), type := 4, pos := "delta.go:57", after := #[{ on := 20, ground := .data }, { on := 29, ground := .data }], guard := none } : Oper)) (v := ?_) rfl (by kernel_rfl) (by kernel_rfl) (by kernel_rfl) (fun _ _ _ h => h) (Or.inl ⟨by rfl, ?_⟩) (by assumption) ?_
        rotate_left
        · (intro w hSw; (try dsimp only at hSw); go_simp; try with_reducible rfl)
        try simp only [Act.put, List.setIfInBounds_toArray, List.set_cons_zero, List.set_cons_succ]
        refine wpAnyH_take (i := 31) (oi := ({ dst := some 36, op := .move (.tmp 35), type := 4, pos := "delta.go:57", after := #[{ on := 30, ground := .data }, { on := 20, ground := .chain }], guard := none } : Oper)) (v := ?_) rfl (by kernel_rfl) (by kernel_rfl) (by kernel_rfl) (fun _ _ _ h => h) (Or.inl ⟨by rfl, ?_⟩) (by assumption) ?_
        rotate_left
        · (intro w hSw; (try dsimp only at hSw); go_simp; try with_reducible rfl)
        try simp only [Act.put, List.setIfInBounds_toArray, List.set_cons_zero, List.set_cons_succ]
        refine wpAnyH_take (i := 32) (oi := ({ dst := some 37, op := .fieldAddr 29 (.tmp 1) 4, type := 0, pos := "delta.go:57", after := #[{ on := 31, ground := .guard }], guard := some (31, false) } : Oper)) (v := ?_) rfl (by kernel_rfl) (by kernel_rfl) (by kernel_rfl) (fun _ _ _ h => h) (Or.inl ⟨by rfl, ?_⟩) (by assumption) ?_
        rotate_left
        · (intro w hSw; (try dsimp only at hSw); go_simp; try with_reducible rfl)
        try simp only [Act.put, List.setIfInBounds_toArray, List.set_cons_zero, List.set_cons_succ]
        refine wpAnyH_take (i := 33) (oi := ({ dst := some 38, op := .load 27 (.tmp 37), type := 27, pos := "delta.go:57", after := #[{ on := 32, ground := .data }, { on := 31, ground := .guard }], guard := some (31, false) } : Oper)) (v := ?_) rfl (by kernel_rfl) (by kernel_rfl) (by kernel_rfl) (fun _ _ _ h => h) (Or.inl ⟨by rfl, ?_⟩) (by assumption) ?_
        rotate_left
        · (intro w hSw; (try dsimp only at hSw); have q1 := HB.out.2.2.2.1 _ hSw; go_simp; try with_reducible rfl)
        try simp only [Act.put, List.setIfInBounds_toArray, List.set_cons_zero, List.set_cons_succ]
        refine wpAnyH_take (i := 34) (oi := ({ dst := some 39, op := .call { callee := .builtin .len, args := #[.tmp 38], argTypes := #[27] }, type := 3, pos := "delta.go:57", after := #[{ on := 33, ground := .data }, { on := 31, ground := .guard }], guard := some (31, false) } : Oper)) (v := ?_) rfl (by kernel_rfl) (by kernel_rfl) (by kernel_rfl) (fun _ _ _ h => h) (Or.inl ⟨by rfl, ?_⟩) (by assumption) ?_
        rotate_left
        · (intro w hSw; (try dsimp only at hSw); go_simp; try with_reducible rfl)
        try simp only [Act.put, List.setIfInBounds_toArray, List.set_cons_zero, List.set_cons_succ]
        refine wpAnyH_take (i := 35) (oi := ({ dst := some 40, op := .binOp .gtr 3 (.tmp 39) (.const (.int .i64 2048)) 3, type := 4, pos := "delta.go:57", after := #[{ on := 34, ground := .data }, { on := 31, ground := .guard }], guard := some (31, false) } : Oper)) (v := ?_) rfl (by kernel_rfl) (by kernel_rfl) (by kernel_rfl) (fun _ _ _ h => h) (Or.inl ⟨by rfl, ?_⟩) (by assumption) ?_
        rotate_left
        · (intro w hSw; (try dsimp only at hSw); go_simp; try with_reducible rfl)
        try simp only [Act.put, List.setIfInBounds_toArray, List.set_cons_zero, List.set_cons_succ]
        refine wpAnyH_take (i := 36) (oi := ({ dst := some 41, op := .pick (.tmp 36) (.const (.bool true)) (.tmp 40), type := 4, pos := "delta.go:57", after := #[{ on := 31, ground := .data }, { on := 35, ground := .data }], guard := none } : Oper)) (v := ?_) rfl (by kernel_rfl) (by kernel_rfl) (by kernel_rfl) (fun _ _ _ h => h) (Or.inl ⟨by rfl, ?_⟩) (by assumption) ?_
        rotate_left
        · (intro w hSw; (try dsimp only at hSw); go_simp; try with_reducible rfl)
        try simp only [Act.put, List.setIfInBounds_toArray, List.set_cons_zero, List.set_cons_succ]
        refine wpAnyH_take (i := 37) (oi := ({ dst := some 42, op := .move (.tmp 41), type := 4, pos := "delta.go:57", after := #[{ on := 36, ground := .data }, { on := 31, ground := .chain }], guard := none } : Oper)) (v := ?_) rfl (by kernel_rfl) (by kernel_rfl) (by kernel_rfl) (fun _ _ _ h => h) (Or.inl ⟨by rfl, ?_⟩) (by assumption) ?_
        rotate_left
        · (intro w hSw; (try dsimp only at hSw); go_simp; try with_reducible rfl)
        try simp only [Act.put, List.setIfInBounds_toArray, List.set_cons_zero, List.set_cons_succ]
        refine wpAnyH_take (i := 38) (oi := ({ dst := some 43, op := .fieldAddr 29 (.tmp 1) 3, type := 0, pos := "delta.go:57", after := #[{ on := 37, ground := .guard }], guard := some (37, false) } : Oper)) (v := ?_) rfl (by kernel_rfl) (by kernel_rfl) (by kernel_rfl) (fun _ _ _ h => h) (Or.inl ⟨by rfl, ?_⟩) (by assumption) ?_
        rotate_left
        · (intro w hSw; (try dsimp only at hSw); go_simp; try with_reducible rfl)
        try simp only [Act.put, List.setIfInBounds_toArray, List.set_cons_zero, List.set_cons_succ]
        refine wpAnyH_take (i := 39) (oi := ({ dst := some 44, op := .load 26 (.tmp 43), type := 26, pos := "delta.go:57", after := #[{ on := 38, ground := .data }, { on := 37, ground := .guard }], guard := some (37, false) } : Oper)) (v := .agg (List.toArray (bs bse))) rfl (by kernel_rfl) (by kernel_rfl) (by kernel_rfl) (fun _ _ _ h => h) (yieldsIf_load_mid (by rfl) _ _ rfl _ _ rfl (bs bse) _ (fun w hSw => HB.out.2.2.2.2 _ hSw) Try.underlying26 rfl hi6) (by assumption) ?_
        try simp only [Act.put, List.setIfInBounds_toArray, List.set_cons_zero, List.set_cons_succ]
        refine wpAnyH_take (i := 40) (oi := ({ dst := some 45, op := .fieldAddr 29 (.tmp 1) 0, type := 0, pos := "delta.go:57", after := #[{ on := 37, ground := .guard }], guard := some (37, false) } : Oper)) (v := ?_) rfl (by kernel_rfl) (by kernel_rfl) (by kernel_rfl) (fun _ _ _ h => h) (Or.inl ⟨by rfl, ?_⟩) (by assumption) ?_
        rotate_left
        · (intro w hSw; (try dsimp only at hSw); go_simp; try with_reducible rfl)
        try simp only [Act.put, List.setIfInBounds_toArray, List.set_cons_zero, List.set_cons_succ]
        refine wpAnyH_take (i := 41) (oi := ({ dst := some 46, op := .load 3 (.tmp 45), type := 3, pos := "delta.go:57", after := #[{ on := 40, ground := .data }, { on := 37, ground := .guard }], guard := some (37, false) } : Oper)) (v := ?_) rfl (by kernel_rfl) (by kernel_rfl) (by kernel_rfl) (fun _ _ _ h => h) (Or.inl ⟨by rfl, ?_⟩) (by assumption) ?_
        rotate_left
        · (intro w hSw; (try dsimp only at hSw); have q1 := HB.out.1 _ hSw; go_simp; try with_reducible rfl)
        try simp only [Act.put, List.setIfInBounds_toArray, List.set_cons_zero, List.set_cons_succ]
        refine wpAnyH_ready (rs := [42]) (by kernel_rfl) (by simp) ?_
        refine (AllReadyH.cons (o := ({ dst := some 47, op := .call { callee := .value (.func 76), args := #[.tmp 44, .tmp 46], argTypes := #[26, 3] }, type := 4, pos := "delta.go:57", after := #[{ on := 39, ground := .data }, { on := 41, ground := .data }, { on := 37, ground := .chain }, { on := 37, ground := .guard }], guard := some (37, false) } : Oper)) rfl (fun K hK => ?_) AllReadyH.nil)
        go_simp
        (refine (NAR.out _).mono ?_; rintro e w' ⟨rfl, kn⟩; have ke := ke.trans' kn)
        go_wp2_with fail
        refine hK.out _ _ ?_ (fun hHeld3 => ?_)
        · (try dsimp only); exact B0.keep ke (by simp)
        clear hK K
        try simp only [Act.put, List.setIfInBounds_toArray, List.set_cons_zero, List.set_cons_succ]
        refine wpAnyH_take (i := 43) (oi := ({ dst := some 48, op := .unOp .not 4 (.tmp 47), type := 4, pos := "delta.go:57", after := #[{ on := 42, ground := .data }, { on := 37, ground := .guard }], guard := some (37, false) } : Oper)) (v := ?_) rfl (by kernel_rfl) (by kernel_rfl) (by kernel_rfl) (fun _ _ _ h => h) (Or.inl ⟨by rfl, ?_⟩) (by assumption) ?_
        rotate_left
        · (intro w hSw; (try dsimp only at hSw); go_simp; try with_reducible rfl)
        try simp only [Act.put, List.setIfInBounds_toArray, List.set_cons_zero, List.set_cons_succ]
        refine wpAnyH_take (i := 44) (oi := ({ dst := some 49, op := .pick (.tmp 42) (.const (.bool true)) (.tmp 48), type := 4, pos := "delta.go:57", after := #[{ on := 37, ground := .data }, { on := 43, ground := .data }], guard := none } : Oper)) (v := ?_) rfl (by kernel_rfl) (by kernel_rfl) (by kernel_rfl) (fun _ _ _ h => h) (Or.inl ⟨by rfl, ?_⟩) (by assumption) ?_
        rotate_left
        · (intro w hSw; (try dsimp only at hSw); go_simp; try with_reducible rfl)
        try simp only [Act.put, List.setIfInBounds_toArray, List.set_cons_zero, List.set_cons_succ]
        refine wpAnyH_done (by kernel_rfl) ?_ _
        refine NoPanic.normal ?_
        skip
        have BW := B0.keep ke (by simp)
        have kW := k0.trans' ke
        have hxW := hx1.keep ke (by simp)
        have cW := HB.out.1 _ BW
        have cB := HB.out.2.2.2.1 _ BW
        obtain ⟨N, hN, hso⟩ := size45
        have HN := Lib.hid hN
        generalize hWn : World.heap w' = junk
        clear hWn junk
        obtain ⟨W2, hW2⟩ : ∃ W, w' = W := ⟨_, rfl⟩
        rw [hW2] at BW kW hxW cW cB ⊢
        clear hW2 ke B0 k0 hx1 NAR hN
        clear hHeld0 hHeld1 hHeld2 kn
        go_upto_region 4 with fail
        go_loopw [53] (fun v wr => ∃ i : Nat, i ≤ n ∧ v = .int .i64 (i : Nat) ∧ Hid (okTo (V : Int) bl i = true) ∧ Keep [] W2 wr) (fun v _ => n - (intOf v).toNat)
        case atStart => exact ⟨0, by omega, rfl, Lib.hid (okTo_zero _ _), Keep.refl _ _⟩
        case round =>
          obtain ⟨i, hi, rfl, HO, kk⟩ := hrel
          have cW := kk.cell cW (by simp)
          have cB := kk.cell cB (by simp)
          by_cases hlt : i < n
          · obtain ⟨x, g, off, ex, rfl, rx⟩ := (hxW.keep kk (by simp)).at hlt
            have HEX := Lib.hid ex
            rw [HN.out] at rx
            have i0 : (0 : Int) ≤ i := by omega
            have i1 : (i : Int) < n := by omega
            have BX : Blk (wr.alloc (.cells x.cells.toArray 45)) wr.heap.size x.cells.toArray 45 := Blk.new _ _ _
            have kx : Keep [] wr (wr.alloc (.cells x.cells.toArray 45)) := (Keep.refl [] wr).alloc _
            obtain ⟨W3, hW3⟩ : ∃ W, wr.alloc (.cells x.cells.toArray 45) = W := ⟨_, rfl⟩
            obtain ⟨p, hp⟩ : ∃ p, wr.heap.size = p := ⟨_, rfl⟩
            rw [hW3] at BX kx
            rw [hp] at BX
            have HW3 := Lib.hid hW3
            have HP := Lib.hid hp
            have HX33 := Lib.hid (show x.cells.toArray.size = 33 by simpa using x.len)
            have HXA := Lib.hid (wk_all x)
            have rX := rangeAt_of_blk BX
            have cs3 := rangeAt_sum rX
            have ri3 := rangeAt_wid rX
            rw [Nat.zero_add] at ri3
            have cW3 := kx.cell cW (by simp)
            have HK := Lib.hid (show okK (V : Int) x = (decide (0 ≤ x.sum ∧ x.sum ≤ 4294967295) && noB x.id V) from rfl)
            have hli := x.li
            have hi7 := hi26 hli
            obtain ⟨sm, hsm⟩ : ∃ z, x.sum = z := ⟨_, rfl⟩
            obtain ⟨xid, hxid⟩ : ∃ z, x.id = z := ⟨_, rfl⟩
            rw [hsm] at cs3 HK
            rw [hxid] at ri3 HK hi7 hli
            have KX := Lib.hid kx
            clear ex hW3 hp hsm hxid kx
            go_upto_region 6 with (first
              | (refine wpList_load_mid rfl 45 (.tmp 55) rfl g (off + i * N) rfl x.cells _ rx Try.underlying45 rfl (hi45 x) ?_)
              | (refine wpList_store_last rfl 45 (.tmp 4) (.tmp 56) rfl _ _ x.cells.toArray rfl rfl rfl (by rw [HX33.out]; rfl) (by rw [HX33.out]; rfl) HXA.out ?_)
              | fail)
            rw [HW3.out, HP.out]
            by_cases c1 : sm < 0
            · have f1 : decide (sm < 0) = true := decide_eq_true c1
              have HNO := Lib.hid (show ans = false by rw [HALL.out]; exact okTo_no HEX.out (by rw [HK.out, decide_eq_false (show ¬ (0 ≤ sm ∧ sm ≤ 4294967295) by omega), Bool.false_and]))
              go_wp2_with fail
              go_returns
              exact ⟨by rw [HNO.out]; rfl, ((kW.trans' kk).trans' KX.out)⟩
            have f1 : decide (sm < 0) = false := decide_eq_false c1
            by_cases c2 : 4294967295 < sm
            · have f2 : decide (4294967295 < sm) = true := decide_eq_true c2
              have HNO := Lib.hid (show ans = false by rw [HALL.out]; exact okTo_no HEX.out (by rw [HK.out, decide_eq_false (show ¬ (0 ≤ sm ∧ sm ≤ 4294967295) by omega), Bool.false_and]))
              go_wp2_with fail
              go_returns
              exact ⟨by rw [HNO.out]; rfl, ((kW.trans' kk).trans' KX.out)⟩
            have f2 : decide (4294967295 < sm) = false := decide_eq_false c2
            cases c3 : noB xid V with
            | false =>
              have NAR := Lib.hid (by have := narrow_any xid V W3 hli (by omega); rwa [c3] at this : Calls Try.prog 76 #[.agg (bs xid).toArray, .int .i64 (V : Nat)] W3 fun e w' => e = .returned (.bool false) ∧ Keep [] W3 w')
              have HNO := Lib.hid (show ans = false by rw [HALL.out]; exact okTo_no HEX.out (by rw [HK.out, c3, Bool.and_false]))
              clear c3
              go_wp2_with (first
                | (refine wpList_load_mid_w 26 (.tmp 66) rfl rfl p 1 rfl (bs xid) _ ri3 Try.underlying26 rfl hi7 ?_)
                | (go_at_call 76; refine NAR.out.mono ?_; rintro e w5 ⟨rfl, k5⟩)
                | fail)
              go_returns
              exact ⟨by rw [HNO.out]; rfl, ((kW.trans' kk).trans' KX.out).trans' k5⟩
            | true =>
              have NAR := Lib.hid (by have := narrow_any xid V W3 hli (by omega); rwa [c3] at this : Calls Try.prog 76 #[.agg (bs xid).toArray, .int .i64 (V : Nat)] W3 fun e w' => e = .returned (.bool true) ∧ Keep [] W3 w')
              have HNX := Lib.hid (show okTo (V : Int) bl (i + 1) = true by rw [okTo_succ HEX.out, HO.out, HK.out, decide_eq_true (show 0 ≤ sm ∧ sm ≤ 4294967295 by omega), c3]; rfl)
              clear c3
              go_wp2_with (first
                | (refine wpList_load_mid_w 26 (.tmp 66) rfl rfl p 1 rfl (bs xid) _ ri3 Try.underlying26 rfl hi7 ?_)
                | (go_at_call 76; refine NAR.out.mono ?_; rintro e w5 ⟨rfl, k5⟩)
                | fail)
              exact ⟨⟨i + 1, by omega, by go_num, HNX, (kk.trans' KX.out).trans' k5⟩, by simp [intOf]; omega⟩
          · obtain rfl : i = n := by omega
            have HYES := Lib.hid (show ans = true by rw [HALL.out]; have := HO.out; rw [← HL.out] at this; exact okTo_end this)
            go_wp2_with fail
            go_returns
            exact ⟨by rw [HYES.out]; rfl, kW.trans' kk⟩
end Go.Proofs.Ytpocegdlobnhaaa

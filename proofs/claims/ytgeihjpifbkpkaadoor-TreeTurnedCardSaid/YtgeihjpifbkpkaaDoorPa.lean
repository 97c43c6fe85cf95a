/- Parse of the program. -/
import Derived.Test.YtgeihjpifbkpkaaDoorPq
import Derived.StillTailTactics
set_option linter.unusedVariables false
set_option linter.unusedSimpArgs false
namespace Go.Proofs.YtgeihjpifbkpkaaDoor
open Go.RowKit

set_option maxHeartbeats 4000000 in
set_option maxRecDepth 100000 in
theorem parse_any (a : Option Addr) (n c : Nat) (d : List UInt8) (w : World) (hl : d.length = n) (hc : a = none → c = 0) (hrd : Rd w a (bs d)) (hn : n ≤ 140737488355328) (hT : Tabs w) :
    Calls Tryd.prog 19 #[.slice a n c] w (GiveT w (parT d) (parC d)) := by
  have B0 : Blk (w.alloc (.cells #[.slice none 0 0] 24)) w.heap.size #[.slice none 0 0] 24 := Blk.new _ _ _
  have B1 := B0.alloc (.cells #[.int .i64 0] 27)
  have R1 : Blk ((w.alloc (.cells #[.slice none 0 0] 24)).alloc (.cells #[.int .i64 0] 27)) (w.heap.size + 1) #[.int .i64 0] 27 := Blk.new' _ _ _ (by simp)
  have kW : Keep [] w ((w.alloc (.cells #[.slice none 0 0] 24)).alloc (.cells #[.int .i64 0] 27)) := ((Keep.refl [] w).alloc _).alloc _
  obtain ⟨W, hW⟩ : ∃ W, (w.alloc (.cells #[.slice none 0 0] 24)).alloc (.cells #[.int .i64 0] 27) = W := ⟨_, rfl⟩
  rw [hW] at B1 R1 kW
  have HW := Lib.hid hW
  clear hW B0
  obtain ⟨A, hA⟩ : ∃ A, w.heap.size = A := ⟨_, rfl⟩
  obtain ⟨B, hB⟩ : ∃ B, A + 1 = B := ⟨_, rfl⟩
  have hwA : w.heap.size ≤ A := by omega
  have hwB : w.heap.size ≤ B := by omega
  have hAB : A ≠ B := by omega
  rw [hA] at B1 R1
  rw [hB] at R1
  have HA := Lib.hid hA
  have HB := Lib.hid hB
  have hAlt := B1.lt
  have hBlt := R1.lt
  have HBG := Lib.hid (begin_any a n c d W hl hc (hrd.keep kW (by simp)) hn)
  obtain ⟨N, hN, hso⟩ := size37
  have HN := Lib.hid hN
  clear hA hB hrd hc hl hN
  have hmf : ∀ (fn : Fn) (first cap : Array Value) (w : World), (Instr.makeFunc fn first cap).run Tryd.prog w = .ok (.func fn first cap) w := fun _ _ _ _ => rfl
  obtain ⟨a1, s1, e1⟩ : ∃ a1 s1, rFixed d ⟨0, 0, 0⟩ 1 = (a1, s1) := ⟨_, _, rfl⟩
  have RF := Lib.hid (fun P S W h => by have := rfixed_any P S d ⟨0, 0, 0⟩ 1 W h; rw [e1] at this; exact this : ∀ P S W, RdAt W P S d ⟨0, 0, 0⟩ → Calls Tryd.prog 39 #[.pointer (some ⟨P, 0, none⟩), .int .i64 1] W fun e w' => e = .returned (.int .i64 (a1 : Nat)) ∧ RdAt w' P S d s1 ∧ Keep [P] W w')
  have HE1 := Lib.hid e1
  clear e1
  go_enter_defers Tryd.func19, Tryd.ntmps19
  go_upto_region 2 with fail
  rw [HW.out, HA.out, HB.out]
  clear hmf
  go_upto_region 3 with (first
    | (go_at_call 37; refine HBG.out.mono ?_; rintro e w1 ⟨P, S, rfl, hR1, hF1, k1⟩)
    | (refine wpList_store_last rfl 69 (.tmp 4) (.tmp 10) rfl _ _ #[.pointer (some ⟨P, 0, none⟩)] rfl rfl rfl (by kernel_rfl) rfl rfl ?_)
    | fail)
  obtain ⟨C, hC⟩ : ∃ C, w1.heap.size = C := ⟨_, rfl⟩
  have BC : Blk (w1.alloc (.cells #[.pointer (some ⟨P, 0, none⟩)] 69)) w1.heap.size #[.pointer (some ⟨P, 0, none⟩)] 69 := Blk.new _ _ _
  have k2 : Keep [] w1 (w1.alloc (.cells #[.pointer (some ⟨P, 0, none⟩)] 69)) := (Keep.refl [] w1).alloc _
  have hWs := k1.size
  have hSlt := hR1.lt
  have hF : PF w A B C P S := ⟨hwA, hwB, by have := kW.size; omega, fun x hx => Nat.le_trans kW.size (fr_old hF1 x hx), hR1.self, hAB, by omega, by omega, fun h => by have := fr_old hF1 _ h; omega, fun h => by have := fr_old hF1 _ h; omega, fun h => by have := hSlt _ h; omega⟩
  obtain ⟨W2, hW2⟩ : ∃ W, w1.alloc (.cells #[.pointer (some ⟨P, 0, none⟩)] 69) = W := ⟨_, rfl⟩
  rw [hW2] at BC k2 ⊢
  rw [hC] at BC ⊢
  have hS : PS w A B C P S d ⟨0, 0, 0⟩ (.slice none 0 0) W2 := ⟨(B1.keep k1 (by simp)).keep k2 (by simp), (R1.keep k1 (by simp)).keep k2 (by simp), BC, hR1.keep k2 (by simp), (kW.trans' k1).trans' k2⟩
  clear hC hW2 k2 BC hWs hSlt hR1 hF1 k1 B1 R1 HBG hAlt hBlt hwA hwB hAB kW
  by_cases q1 : a1 = 84
  case neg =>
    have HG := Lib.hid (par_no (d := d) (by rw [parO, HE1.out]; exact if_neg (fun h => q1 h.1)))
    have q2 : ((a1 : Int) == 84) = false := by simp; omega
    have hS := hS.drew
    refine wp_region_held_drew (S := fun w' => w'.cell? ⟨C, 0, none⟩ = some (.pointer (some ⟨P, 0, none⟩))) (by kernel_rfl) ?_ (fun hHeld0 => ?_)
    · (try dsimp only); exact hS.bc.cell (i := 0) rfl
    refine wpAnyH_take (i := 0) (oi := ({ dst := some 11, op := Go.Op.load 69 (Go.Operand.tmp 4), type := 69, pos := "tree.go:81", after := #[], guard := none } : Oper)) (v := ?_) rfl (by kernel_rfl) (by kernel_rfl) (by kernel_rfl) (fun c a w h => back19 11 (by decide) (by decide) c a _ w h) (Or.inl ⟨by rfl, ?_⟩) (by assumption) ?_
    rotate_left
    · (intro w hSw; (try dsimp only at hSw); go_simp; try with_reducible rfl)
    try simp only [Act.put, List.setIfInBounds_toArray, List.set_cons_zero, List.set_cons_succ]
    refine wpAnyH_take (i := 1) (oi := ({ dst := some 12, op := Go.Op.fieldAddr 69 (Go.Operand.tmp 4) 0, type := 0, pos := "tree.go:81", after := #[], guard := none } : Oper)) (v := ?_) rfl (by kernel_rfl) (by kernel_rfl) (by kernel_rfl) (fun c a w h => back19 12 (by decide) (by decide) c a _ w h) (Or.inl ⟨by rfl, ?_⟩) (by assumption) ?_
    rotate_left
    · (intro w hSw; (try dsimp only at hSw); go_simp; try with_reducible rfl)
    try simp only [Act.put, List.setIfInBounds_toArray, List.set_cons_zero, List.set_cons_succ]
    refine wpAnyH_take (i := 2) (oi := ({ dst := some 13, op := Go.Op.load 67 (Go.Operand.tmp 12), type := 67, pos := "tree.go:81", after := #[{ on := 1, ground := Go.Ground.data }], guard := none } : Oper)) (v := ?_) rfl (by kernel_rfl) (by kernel_rfl) (by kernel_rfl) (fun c a w h => back19 13 (by decide) (by decide) c a _ w h) (Or.inl ⟨by rfl, ?_⟩) (by assumption) ?_
    rotate_left
    · (intro w hSw; (try dsimp only at hSw); go_simp; try with_reducible rfl)
    try simp only [Act.put, List.setIfInBounds_toArray, List.set_cons_zero, List.set_cons_succ]
    refine wpAnyH_ready (rs := [3]) (by kernel_rfl) (by simp) ?_
    refine (AllReadyH.cons (o := ({ dst := some 14, op := Go.Op.call { callee := Go.Callee.value (Go.Operand.func 39), args := #[Go.Operand.tmp 13, Go.Operand.const (Go.Value.int Go.IntKind.i64 1)], argTypes := #[67, 3] }, type := 3, pos := "tree.go:81", after := #[{ on := 2, ground := Go.Ground.data }], guard := none } : Oper)) rfl (fun K hK => ?_) AllReadyH.nil)
    go_simp
    (refine (RF.out P S _ hS.rd).mono ?_; rintro e w' ⟨rfl, hRn, kn⟩; have hS := hS.read hF kn hRn)
    go_wp2_with fail
    refine hK.out _ _ ?_ (fun hHeld1 => ?_)
    · (try dsimp only); exact hS.bc.cell (i := 0) rfl
    clear hK K
    try simp only [Act.put, List.setIfInBounds_toArray, List.set_cons_zero, List.set_cons_succ]
    refine wpAnyH_take (i := 4) (oi := ({ dst := some 15, op := Go.Op.binOp Go.BinOp.eql 3 (Go.Operand.tmp 14) (Go.Operand.const (Go.Value.int Go.IntKind.i64 84)) 3, type := 4, pos := "tree.go:81", after := #[{ on := 3, ground := Go.Ground.data }], guard := none } : Oper)) (v := ?_) rfl (by kernel_rfl) (by kernel_rfl) (by kernel_rfl) (fun c a w h => back19 15 (by decide) (by decide) c a _ w h) (Or.inl ⟨by rfl, ?_⟩) (by assumption) ?_
    rotate_left
    · (intro w hSw; (try dsimp only at hSw); go_simp; try with_reducible rfl)
    try simp only [Act.put, List.setIfInBounds_toArray, List.set_cons_zero, List.set_cons_succ]
    refine wpAnyH_ready (rs := [5]) (by kernel_rfl) (by simp) ?_
    refine (AllReadyH.cons (o := ({ dst := some 16, op := Go.Op.call { callee := Go.Callee.value (Go.Operand.func 38), args := #[Go.Operand.tmp 11, Go.Operand.tmp 15], argTypes := #[69, 4] }, type := 0, pos := "tree.go:81", after := #[{ on := 0, ground := Go.Ground.data }, { on := 4, ground := Go.Ground.data }, { on := 3, ground := Go.Ground.chain }], guard := none } : Oper)) rfl (fun K hK => ?_) AllReadyH.nil)
    go_simp
    (refine (ask_no P S d s1 false _ hS.rd (Or.inl rfl)).mono ?_; rintro e w' ⟨rfl, kn⟩; have hS := hS.keep0 kn)
    go_wp2_with fail
    rw [HG.out.1, HG.out.2]
    refine leaves_cons (f := 36) (args := #[.pointer (some ⟨A, 0, none⟩), .pointer (some ⟨B, 0, none⟩)]) (by simp) (by simp [go_sem]) ?_
    refine (catch_gone A B _ _ _ hS.ba hS.bb hF.ab).mono ?_
    rintro e u' w'' ⟨rfl, rfl, g1, g2, gk⟩
    have c1 := g1.cell (i := 0) rfl
    have c2 := g2.cell (i := 0) rfl
    have gv := GiveT.nil (code := 70) (hS.k.trans gk (fun b hb => by simp only [List.mem_cons, List.not_mem_nil, or_false] at hb; rcases hb with rfl | rfl; exact Or.inr hF.a; exact Or.inr hF.b))
    simp [Leaves, settle, results, Tryd.results19, go_sem, c1, c2, goneR]
    exact gv
  subst q1
  by_cases q3 : s1.code = 0
  case neg =>
    have HG := Lib.hid (par_no (d := d) (by rw [parO, HE1.out]; exact if_neg (fun h => q3 h.2)))
    have hS := hS.drew
    refine wp_region_held_drew (S := fun w' => w'.cell? ⟨C, 0, none⟩ = some (.pointer (some ⟨P, 0, none⟩))) (by kernel_rfl) ?_ (fun hHeld0 => ?_)
    · (try dsimp only); exact hS.bc.cell (i := 0) rfl
    refine wpAnyH_take (i := 0) (oi := ({ dst := some 11, op := Go.Op.load 69 (Go.Operand.tmp 4), type := 69, pos := "tree.go:81", after := #[], guard := none } : Oper)) (v := ?_) rfl (by kernel_rfl) (by kernel_rfl) (by kernel_rfl) (fun c a w h => back19 11 (by decide) (by decide) c a _ w h) (Or.inl ⟨by rfl, ?_⟩) (by assumption) ?_
    rotate_left
    · (intro w hSw; (try dsimp only at hSw); go_simp; try with_reducible rfl)
    try simp only [Act.put, List.setIfInBounds_toArray, List.set_cons_zero, List.set_cons_succ]
    refine wpAnyH_take (i := 1) (oi := ({ dst := some 12, op := Go.Op.fieldAddr 69 (Go.Operand.tmp 4) 0, type := 0, pos := "tree.go:81", after := #[], guard := none } : Oper)) (v := ?_) rfl (by kernel_rfl) (by kernel_rfl) (by kernel_rfl) (fun c a w h => back19 12 (by decide) (by decide) c a _ w h) (Or.inl ⟨by rfl, ?_⟩) (by assumption) ?_
    rotate_left
    · (intro w hSw; (try dsimp only at hSw); go_simp; try with_reducible rfl)
    try simp only [Act.put, List.setIfInBounds_toArray, List.set_cons_zero, List.set_cons_succ]
    refine wpAnyH_take (i := 2) (oi := ({ dst := some 13, op := Go.Op.load 67 (Go.Operand.tmp 12), type := 67, pos := "tree.go:81", after := #[{ on := 1, ground := Go.Ground.data }], guard := none } : Oper)) (v := ?_) rfl (by kernel_rfl) (by kernel_rfl) (by kernel_rfl) (fun c a w h => back19 13 (by decide) (by decide) c a _ w h) (Or.inl ⟨by rfl, ?_⟩) (by assumption) ?_
    rotate_left
    · (intro w hSw; (try dsimp only at hSw); go_simp; try with_reducible rfl)
    try simp only [Act.put, List.setIfInBounds_toArray, List.set_cons_zero, List.set_cons_succ]
    refine wpAnyH_ready (rs := [3]) (by kernel_rfl) (by simp) ?_
    refine (AllReadyH.cons (o := ({ dst := some 14, op := Go.Op.call { callee := Go.Callee.value (Go.Operand.func 39), args := #[Go.Operand.tmp 13, Go.Operand.const (Go.Value.int Go.IntKind.i64 1)], argTypes := #[67, 3] }, type := 3, pos := "tree.go:81", after := #[{ on := 2, ground := Go.Ground.data }], guard := none } : Oper)) rfl (fun K hK => ?_) AllReadyH.nil)
    go_simp
    (refine (RF.out P S _ hS.rd).mono ?_; rintro e w' ⟨rfl, hRn, kn⟩; have hS := hS.read hF kn hRn)
    go_wp2_with fail
    refine hK.out _ _ ?_ (fun hHeld1 => ?_)
    · (try dsimp only); exact hS.bc.cell (i := 0) rfl
    clear hK K
    try simp only [Act.put, List.setIfInBounds_toArray, List.set_cons_zero, List.set_cons_succ]
    refine wpAnyH_take (i := 4) (oi := ({ dst := some 15, op := Go.Op.binOp Go.BinOp.eql 3 (Go.Operand.tmp 14) (Go.Operand.const (Go.Value.int Go.IntKind.i64 84)) 3, type := 4, pos := "tree.go:81", after := #[{ on := 3, ground := Go.Ground.data }], guard := none } : Oper)) (v := ?_) rfl (by kernel_rfl) (by kernel_rfl) (by kernel_rfl) (fun c a w h => back19 15 (by decide) (by decide) c a _ w h) (Or.inl ⟨by rfl, ?_⟩) (by assumption) ?_
    rotate_left
    · (intro w hSw; (try dsimp only at hSw); go_simp; try with_reducible rfl)
    try simp only [Act.put, List.setIfInBounds_toArray, List.set_cons_zero, List.set_cons_succ]
    refine wpAnyH_ready (rs := [5]) (by kernel_rfl) (by simp) ?_
    refine (AllReadyH.cons (o := ({ dst := some 16, op := Go.Op.call { callee := Go.Callee.value (Go.Operand.func 38), args := #[Go.Operand.tmp 11, Go.Operand.tmp 15], argTypes := #[69, 4] }, type := 0, pos := "tree.go:81", after := #[{ on := 0, ground := Go.Ground.data }, { on := 4, ground := Go.Ground.data }, { on := 3, ground := Go.Ground.chain }], guard := none } : Oper)) rfl (fun K hK => ?_) AllReadyH.nil)
    go_simp
    (refine (ask_no P S d s1 true _ hS.rd (Or.inr q3)).mono ?_; rintro e w' ⟨rfl, kn⟩; have hS := hS.keep0 kn)
    go_wp2_with fail
    rw [HG.out.1, HG.out.2]
    refine leaves_cons (f := 36) (args := #[.pointer (some ⟨A, 0, none⟩), .pointer (some ⟨B, 0, none⟩)]) (by simp) (by simp [go_sem]) ?_
    refine (catch_gone A B _ _ _ hS.ba hS.bb hF.ab).mono ?_
    rintro e u' w'' ⟨rfl, rfl, g1, g2, gk⟩
    have c1 := g1.cell (i := 0) rfl
    have c2 := g2.cell (i := 0) rfl
    have gv := GiveT.nil (code := 70) (hS.k.trans gk (fun b hb => by simp only [List.mem_cons, List.not_mem_nil, or_false] at hb; rcases hb with rfl | rfl; exact Or.inr hF.a; exact Or.inr hF.b))
    simp [Leaves, settle, results, Tryd.results19, go_sem, c1, c2, goneR]
    exact gv
  obtain ⟨n1, s2, e2⟩ : ∃ n1 s2, rNumber d s1 = (n1, s2) := ⟨_, _, rfl⟩
  have RN := Lib.hid (fun W h => by have := rnumber_any P S d s1 W h; rw [e2] at this; exact this : ∀ W, RdAt W P S d s1 → Calls Tryd.prog 40 #[.pointer (some ⟨P, 0, none⟩)] W fun e w' => e = .returned (.int .i64 (n1 : Nat)) ∧ RdAt w' P S d s2 ∧ Keep [P] W w')
  have HP := Lib.hid (show parO d = if n1 ≤ 32 ∧ s2.code = 0 then (match manyE d s2 n1 with | none => none | some (l, s) => if rLeft d s = 0 ∧ s.code = 0 then some l else none) else none by
    rw [parO, HE1.out]; simp only; rw [if_pos ⟨trivial, q3⟩, e2]; rfl)
  have Q3 := Lib.hid q3
  clear e2 q3 HE1
  have hS := hS.drew
  refine wp_region_noPanic ?_
  refine wp_region_held_drew (S := fun w' => w'.cell? ⟨C, 0, none⟩ = some (.pointer (some ⟨P, 0, none⟩))) (by kernel_rfl) ?_ (fun hHeld0 => ?_)
  · (try dsimp only); exact hS.bc.cell (i := 0) rfl
  refine wpAnyH_take (i := 0) (oi := ({ dst := some 11, op := Go.Op.load 69 (Go.Operand.tmp 4), type := 69, pos := "tree.go:81", after := #[], guard := none } : Oper)) (v := ?_) rfl (by kernel_rfl) (by kernel_rfl) (by kernel_rfl) (fun _ _ _ h => h) (Or.inl ⟨by rfl, ?_⟩) (by assumption) ?_
  rotate_left
  · (intro w hSw; (try dsimp only at hSw); go_simp; try with_reducible rfl)
  try simp only [Act.put, List.setIfInBounds_toArray, List.set_cons_zero, List.set_cons_succ]
  refine wpAnyH_take (i := 1) (oi := ({ dst := some 12, op := Go.Op.fieldAddr 69 (Go.Operand.tmp 4) 0, type := 0, pos := "tree.go:81", after := #[], guard := none } : Oper)) (v := ?_) rfl (by kernel_rfl) (by kernel_rfl) (by kernel_rfl) (fun _ _ _ h => h) (Or.inl ⟨by rfl, ?_⟩) (by assumption) ?_
  rotate_left
  · (intro w hSw; (try dsimp only at hSw); go_simp; try with_reducible rfl)
  try simp only [Act.put, List.setIfInBounds_toArray, List.set_cons_zero, List.set_cons_succ]
  refine wpAnyH_take (i := 2) (oi := ({ dst := some 13, op := Go.Op.load 67 (Go.Operand.tmp 12), type := 67, pos := "tree.go:81", after := #[{ on := 1, ground := Go.Ground.data }], guard := none } : Oper)) (v := ?_) rfl (by kernel_rfl) (by kernel_rfl) (by kernel_rfl) (fun _ _ _ h => h) (Or.inl ⟨by rfl, ?_⟩) (by assumption) ?_
  rotate_left
  · (intro w hSw; (try dsimp only at hSw); go_simp; try with_reducible rfl)
  try simp only [Act.put, List.setIfInBounds_toArray, List.set_cons_zero, List.set_cons_succ]
  refine wpAnyH_ready (rs := [3]) (by kernel_rfl) (by simp) ?_
  refine (AllReadyH.cons (o := ({ dst := some 14, op := Go.Op.call { callee := Go.Callee.value (Go.Operand.func 39), args := #[Go.Operand.tmp 13, Go.Operand.const (Go.Value.int Go.IntKind.i64 1)], argTypes := #[67, 3] }, type := 3, pos := "tree.go:81", after := #[{ on := 2, ground := Go.Ground.data }], guard := none } : Oper)) rfl (fun K hK => ?_) AllReadyH.nil)
  go_simp
  (refine (RF.out P S _ hS.rd).mono ?_; rintro e w' ⟨rfl, hRn, kn⟩; have hS := hS.read hF kn hRn)
  go_wp2_with fail
  refine hK.out _ _ ?_ (fun hHeld1 => ?_)
  · (try dsimp only); exact hS.bc.cell (i := 0) rfl
  clear hK K
  try simp only [Act.put, List.setIfInBounds_toArray, List.set_cons_zero, List.set_cons_succ]
  refine wpAnyH_take (i := 4) (oi := ({ dst := some 15, op := Go.Op.binOp Go.BinOp.eql 3 (Go.Operand.tmp 14) (Go.Operand.const (Go.Value.int Go.IntKind.i64 84)) 3, type := 4, pos := "tree.go:81", after := #[{ on := 3, ground := Go.Ground.data }], guard := none } : Oper)) (v := ?_) rfl (by kernel_rfl) (by kernel_rfl) (by kernel_rfl) (fun _ _ _ h => h) (Or.inl ⟨by rfl, ?_⟩) (by assumption) ?_
  rotate_left
  · (intro w hSw; (try dsimp only at hSw); go_simp; try with_reducible rfl)
  try simp only [Act.put, List.setIfInBounds_toArray, List.set_cons_zero, List.set_cons_succ]
  refine wpAnyH_ready (rs := [5]) (by kernel_rfl) (by simp) ?_
  refine (AllReadyH.cons (o := ({ dst := some 16, op := Go.Op.call { callee := Go.Callee.value (Go.Operand.func 38), args := #[Go.Operand.tmp 11, Go.Operand.tmp 15], argTypes := #[69, 4] }, type := 0, pos := "tree.go:81", after := #[{ on := 0, ground := Go.Ground.data }, { on := 4, ground := Go.Ground.data }, { on := 3, ground := Go.Ground.chain }], guard := none } : Oper)) rfl (fun K hK => ?_) AllReadyH.nil)
  go_simp
  (refine (ask_yes P S d s1 _ hS.rd (Q3.out)).mono ?_; rintro e w' ⟨rfl, kn⟩; have hS := hS.keep0 kn)
  go_wp2_with fail
  refine hK.out _ _ ?_ (fun hHeld2 => ?_)
  · (try dsimp only); exact hS.bc.cell (i := 0) rfl
  clear hK K
  try simp only [Act.put, List.setIfInBounds_toArray, List.set_cons_zero, List.set_cons_succ]
  refine wpAnyH_done (by kernel_rfl) ?_ _
  refine NoPanic.normal ?_
  skip
  have c4 := hS.bc.cell (i := 0) rfl
  clear hHeld0 hHeld1 hHeld2 hRn kn RF Q3
  go_upto_region 5 with (first
    | (go_at_call 40; refine (RN.out _ hS.rd).mono ?_; rintro e w2 ⟨rfl, hR2, k2⟩; have hS := hS.read hF k2 hR2)
    | fail)
  have c4 := hS.bc.cell (i := 0) rfl
  clear RN hR2 k2 kn
  by_cases q4 : n1 ≤ 32
  case neg =>
    have HG := Lib.hid (par_no (d := d) (by rw [HP.out]; exact if_neg (fun h => q4 h.1)))
    have q5 : decide ((n1 : Int) ≤ 32) = false := decide_eq_false (by omega)
    go_wp2_with (first
      | (go_at_call 38; refine (ask_no P S d s2 false _ hS.rd (Or.inl rfl)).mono ?_; rintro e w3 ⟨rfl, k3⟩; have hS := hS.keep0 k3)
      | fail)
    rw [HG.out.1, HG.out.2]
    refine leaves_cons (f := 36) (args := #[.pointer (some ⟨A, 0, none⟩), .pointer (some ⟨B, 0, none⟩)]) (by simp) (by simp [go_sem]) ?_
    refine (catch_gone A B _ _ _ hS.ba hS.bb hF.ab).mono ?_
    rintro e u' w'' ⟨rfl, rfl, g1, g2, gk⟩
    have c1 := g1.cell (i := 0) rfl
    have c2 := g2.cell (i := 0) rfl
    have gv := GiveT.nil (code := 70) (hS.k.trans gk (fun b hb => by simp only [List.mem_cons, List.not_mem_nil, or_false] at hb; rcases hb with rfl | rfl; exact Or.inr hF.a; exact Or.inr hF.b))
    simp [Leaves, settle, results, Tryd.results19, go_sem, c1, c2, goneR]
    exact gv
  have q5 : decide ((n1 : Int) ≤ 32) = true := decide_eq_true (by omega)
  have q7 : (n1 : Int) ≤ 32 := by omega
  by_cases q6 : s2.code = 0
  case neg =>
    have HG := Lib.hid (par_no (d := d) (by rw [HP.out]; exact if_neg (fun h => q6 h.2)))
    have Q6 := Lib.hid q6
    clear q6
    go_wp2_with (first
      | (go_at_call 38; refine (ask_no P S d s2 true _ hS.rd (Or.inr Q6.out)).mono ?_; rintro e w3 ⟨rfl, k3⟩; have hS := hS.keep0 k3)
      | fail)
    rw [HG.out.1, HG.out.2]
    refine leaves_cons (f := 36) (args := #[.pointer (some ⟨A, 0, none⟩), .pointer (some ⟨B, 0, none⟩)]) (by simp) (by simp [go_sem]) ?_
    refine (catch_gone A B _ _ _ hS.ba hS.bb hF.ab).mono ?_
    rintro e u' w'' ⟨rfl, rfl, g1, g2, gk⟩
    have c1 := g1.cell (i := 0) rfl
    have c2 := g2.cell (i := 0) rfl
    have gv := GiveT.nil (code := 70) (hS.k.trans gk (fun b hb => by simp only [List.mem_cons, List.not_mem_nil, or_false] at hb; rcases hb with rfl | rfl; exact Or.inr hF.a; exact Or.inr hF.b))
    simp [Leaves, settle, results, Tryd.results19, go_sem, c1, c2, goneR]
    exact gv
  have Q6 := Lib.hid q6
  have HP2 := Lib.hid (show parO d = match manyE d s2 n1 with | none => none | some (l, s) => if rLeft d s = 0 ∧ s.code = 0 then some l else none by rw [HP.out, if_pos ⟨q4, q6⟩])
  clear q6 HP
  go_upto_region 7 with (first
    | (go_at_call 38; refine (ask_yes P S d s2 _ hS.rd Q6.out).mono ?_; rintro e w3 ⟨rfl, k3⟩; have hS := hS.keep0 k3)
    | fail)
  have hPS0 : PL w A B C P S d s2 n1 (.int .i64 ((0 : Nat) : Int)) w3 := ⟨0, [], s2, none, 0, by omega, rfl, Lib.hid rfl, hS, Sl.nil _ _ _, by intro b hb; simp [blks, Value.ownBlock] at hb⟩
  clear hS k3 c4 q5 q7
  go_loopw [25] (fun v25 wr => PL w A B C P S d s2 n1 v25 wr) (fun v25 _ => n1 - (intOf v25).toNat)
  case atStart => exact hPS0
  case round =>
    clear hPS0
    obtain ⟨i, l, s, ao, co, hi, rfl, HM, hS, hs, hO⟩ := hrel
    have hll := Lib.hid (manyE_len HM.out)
    by_cases hlt : i < n1
    · have i1 : (i : Int) < n1 := by omega
      have i0 : (0 : Int) ≤ i := by omega
      have c4 := hS.bc.cell (i := 0) rfl
      have HEN := Lib.hid (entry_any P S d s wr w hS.rd hT hS.k hF.pw)
      obtain ⟨x, hx⟩ : ∃ x, (takE d s).1 = x := ⟨_, rfl⟩
      obtain ⟨s', hs'⟩ : ∃ s', (takE d s).2 = s' := ⟨_, rfl⟩
      rw [hx, hs'] at HEN
      have HX := Lib.hid (And.intro hx hs')
      clear hx hs'
      cases hk : takOk d s with
      | false =>
        rw [hk] at HEN
        have HG := Lib.hid (par_no (d := d) (by rw [HP2.out, manyE_no HM.out (by rw [hk]; rfl) hlt]))
        clear hk
        go_wp2_with (first
          | (go_at_call 41; refine HEN.out.mono ?_; rintro e w4 ⟨rfl, hR4, k4⟩; have hS := hS.read hF k4 hR4)
          | fail)
        rw [HG.out.1, HG.out.2]
        refine leaves_cons (f := 36) (args := #[.pointer (some ⟨A, 0, none⟩), .pointer (some ⟨B, 0, none⟩)]) (by simp) (by simp [go_sem]) ?_
        refine (catch_gone A B _ _ _ hS.ba hS.bb hF.ab).mono ?_
        rintro e u' w'' ⟨rfl, rfl, g1, g2, gk⟩
        have c1 := g1.cell (i := 0) rfl
        have c2 := g2.cell (i := 0) rfl
        have gv := GiveT.nil (code := 70) (hS.k.trans gk (fun b hb => by simp only [List.mem_cons, List.not_mem_nil, or_false] at hb; rcases hb with rfl | rfl; exact Or.inr hF.a; exact Or.inr hF.b))
        simp [Leaves, settle, results, Tryd.results19, go_sem, c1, c2, goneR]
        exact gv
      | true =>
        rw [hk] at HEN
        have HK := Lib.hid hk
        have HC := Lib.hid (takOk_code hk)
        rw [HX.out.2] at HC
        have HX34 := Lib.hid (show x.cells.toArray.size = 34 by simpa using x.len)
        clear hk
        go_upto_region 10 with (first
          | (go_at_call 41; refine HEN.out.mono ?_; rintro e w4 ⟨rfl, hR4, k4⟩; have hS := hS.read hF k4 hR4; have hs := hs.keep k4 (fun b hb hb' => by simp only [List.mem_singleton] at hb'; subst hb'; exact (hO b hb).2.2.2.1 hF.p))
          | (refine wpList_store_last rfl 37 (.tmp 7) (.tmp 29) rfl _ _ x.cells.toArray rfl rfl rfl (by rw [HX34.out]; rfl) (by rw [HX34.out]; rfl) (ent_all x) ?_)
          | fail)
        have BX : Blk (w4.alloc (.cells x.cells.toArray 37)) w4.heap.size x.cells.toArray 37 := Blk.new _ _ _
        have kx : Keep [] w4 (w4.alloc (.cells x.cells.toArray 37)) := (Keep.refl [] w4).alloc _
        obtain ⟨W5, hW5⟩ : ∃ W, w4.alloc (.cells x.cells.toArray 37) = W := ⟨_, rfl⟩
        obtain ⟨px, hpx⟩ : ∃ p, w4.heap.size = p := ⟨_, rfl⟩
        have hlt4 := hs.lt
        have hpxA : px ≠ A := by have := hS.ba.lt; omega
        have hpxO : ∀ b ∈ blks (.slice ao i co), px ≠ b := fun b hb => by have := hlt4 b hb; omega
        rw [hW5] at BX kx ⊢
        rw [hpx] at BX ⊢
        have hS := hS.keep0 kx
        have hs := hs.keep kx (by simp)
        clear hW5 hpx kx hlt4 c4 HEN
        have rX := rangeAt_of_blk BX
        have cx := rangeAt_name rX
        have cA := hS.ba.cell (i := 0) rfl
        have cC := hS.bc.cell (i := 0) rfl
        simp only [Act.put]
        go_cut [] from 26 to 49 (fun wc => Keep [] W5 wc ∧ Hid (upE l x = true))
        case first =>
          by_cases h0 : i = 0
          · subst h0
            have hl0 : l = [] := List.eq_nil_of_length_eq_zero hll.out
            subst hl0
            have ke : Keep [] W5 W5.drew := (Keep.refl [] W5).drew
            refine wp_region_noPanic ?_
            refine wp_region_held_drew (S := fun w' => w'.cell? ⟨C, 0, none⟩ = some (.pointer (some ⟨P, 0, none⟩)) ∧ w'.cell? ⟨A, 0, none⟩ = some (.slice ao 0 co) ∧ w'.cell? ⟨px, 0, none⟩ = some (.string x.name)) (by kernel_rfl) ?_ (fun hHeld0 => ?_)
            · (try dsimp only); exact ⟨ke.cell cC (by simp), ke.cell cA (by simp), ke.cell cx (by simp)⟩
            refine wpAnyH_take (i := 0) (oi := ({ dst := some 30, op := Go.Op.load 69 (Go.Operand.tmp 4), type := 69, pos := "tree.go:86", after := #[], guard := none } : Oper)) (v := ?_) rfl (by kernel_rfl) (by kernel_rfl) (by kernel_rfl) (fun _ _ _ h => h) (Or.inl ⟨by rfl, ?_⟩) (by assumption) ?_
            rotate_left
            · (intro w hSw; (try dsimp only at hSw); have q1 := hSw.1; go_simp; try with_reducible rfl)
            try simp only [Act.put, List.setIfInBounds_toArray, List.set_cons_zero, List.set_cons_succ]
            refine wpAnyH_take (i := 1) (oi := ({ dst := some 31, op := Go.Op.move (Go.Operand.tmp 6), type := 3, pos := "tree.go:86", after := #[], guard := none } : Oper)) (v := ?_) rfl (by kernel_rfl) (by kernel_rfl) (by kernel_rfl) (fun _ _ _ h => h) (Or.inl ⟨by rfl, ?_⟩) (by assumption) ?_
            rotate_left
            · (intro w hSw; (try dsimp only at hSw); go_simp; try with_reducible rfl)
            try simp only [Act.put, List.setIfInBounds_toArray, List.set_cons_zero, List.set_cons_succ]
            refine wpAnyH_take (i := 2) (oi := ({ dst := some 32, op := Go.Op.binOp Go.BinOp.eql 3 (Go.Operand.tmp 31) (Go.Operand.const (Go.Value.int Go.IntKind.i64 0)) 3, type := 4, pos := "tree.go:86", after := #[{ on := 1, ground := Go.Ground.data }], guard := none } : Oper)) (v := ?_) rfl (by kernel_rfl) (by kernel_rfl) (by kernel_rfl) (fun _ _ _ h => h) (Or.inl ⟨by rfl, ?_⟩) (by assumption) ?_
            rotate_left
            · (intro w hSw; (try dsimp only at hSw); go_simp; try with_reducible rfl)
            try simp only [Act.put, List.setIfInBounds_toArray, List.set_cons_zero, List.set_cons_succ]
            refine wpAnyH_take (i := 3) (oi := ({ dst := some 33, op := Go.Op.move (Go.Operand.tmp 32), type := 4, pos := "tree.go:86", after := #[{ on := 2, ground := Go.Ground.data }], guard := none } : Oper)) (v := ?_) rfl (by kernel_rfl) (by kernel_rfl) (by kernel_rfl) (fun _ _ _ h => h) (Or.inl ⟨by rfl, ?_⟩) (by assumption) ?_
            rotate_left
            · (intro w hSw; (try dsimp only at hSw); go_simp; try with_reducible rfl)
            try simp only [Act.put, List.setIfInBounds_toArray, List.set_cons_zero, List.set_cons_succ]
            refine wpAnyH_take (i := 4) (oi := ({ dst := some 34, op := Go.Op.load 24 (Go.Operand.tmp 2), type := 24, pos := "tree.go:86", after := #[{ on := 3, ground := Go.Ground.guard }], guard := some (3, false) } : Oper)) (v := undef) rfl (by kernel_rfl) (by kernel_rfl) (by kernel_rfl) (fun _ _ _ h => h) (Or.inr ⟨by rfl, rfl⟩) (by assumption) ?_
            try simp only [Act.put, List.setIfInBounds_toArray, List.set_cons_zero, List.set_cons_succ]
            refine wpAnyH_take (i := 5) (oi := ({ dst := some 35, op := Go.Op.move (Go.Operand.tmp 6), type := 3, pos := "tree.go:86", after := #[{ on := 3, ground := Go.Ground.guard }], guard := some (3, false) } : Oper)) (v := undef) rfl (by kernel_rfl) (by kernel_rfl) (by kernel_rfl) (fun _ _ _ h => h) (Or.inr ⟨by rfl, rfl⟩) (by assumption) ?_
            try simp only [Act.put, List.setIfInBounds_toArray, List.set_cons_zero, List.set_cons_succ]
            refine wpAnyH_take (i := 6) (oi := ({ dst := some 36, op := Go.Op.binOp Go.BinOp.sub 3 (Go.Operand.tmp 35) (Go.Operand.const (Go.Value.int Go.IntKind.i64 1)) 3, type := 3, pos := "tree.go:86", after := #[{ on := 5, ground := Go.Ground.data }, { on := 3, ground := Go.Ground.guard }], guard := some (3, false) } : Oper)) (v := undef) rfl (by kernel_rfl) (by kernel_rfl) (by kernel_rfl) (fun _ _ _ h => h) (Or.inr ⟨by rfl, rfl⟩) (by assumption) ?_
            try simp only [Act.put, List.setIfInBounds_toArray, List.set_cons_zero, List.set_cons_succ]
            refine wpAnyH_take (i := 7) (oi := ({ dst := some 37, op := Go.Op.indexAddr 24 (Go.Operand.tmp 34) (Go.Operand.tmp 36), type := 0, pos := "tree.go:86", after := #[{ on := 4, ground := Go.Ground.data }, { on := 6, ground := Go.Ground.data }, { on := 3, ground := Go.Ground.guard }], guard := some (3, false) } : Oper)) (v := undef) rfl (by kernel_rfl) (by kernel_rfl) (by kernel_rfl) (fun _ _ _ h => h) (Or.inr ⟨by rfl, rfl⟩) (by assumption) ?_
            try simp only [Act.put, List.setIfInBounds_toArray, List.set_cons_zero, List.set_cons_succ]
            refine wpAnyH_take (i := 8) (oi := ({ dst := some 38, op := Go.Op.fieldAddr 37 (Go.Operand.tmp 37) 0, type := 0, pos := "tree.go:86", after := #[{ on := 7, ground := Go.Ground.data }, { on := 3, ground := Go.Ground.guard }], guard := some (3, false) } : Oper)) (v := undef) rfl (by kernel_rfl) (by kernel_rfl) (by kernel_rfl) (fun _ _ _ h => h) (Or.inr ⟨by rfl, rfl⟩) (by assumption) ?_
            try simp only [Act.put, List.setIfInBounds_toArray, List.set_cons_zero, List.set_cons_succ]
            refine wpAnyH_take (i := 9) (oi := ({ dst := some 39, op := Go.Op.load 9 (Go.Operand.tmp 38), type := 9, pos := "tree.go:86", after := #[{ on := 8, ground := Go.Ground.data }, { on := 3, ground := Go.Ground.guard }], guard := some (3, false) } : Oper)) (v := undef) rfl (by kernel_rfl) (by kernel_rfl) (by kernel_rfl) (fun _ _ _ h => h) (Or.inr ⟨by rfl, rfl⟩) (by assumption) ?_
            try simp only [Act.put, List.setIfInBounds_toArray, List.set_cons_zero, List.set_cons_succ]
            refine wpAnyH_take (i := 10) (oi := ({ dst := some 40, op := Go.Op.fieldAddr 37 (Go.Operand.tmp 7) 0, type := 0, pos := "tree.go:86", after := #[{ on := 3, ground := Go.Ground.guard }], guard := some (3, false) } : Oper)) (v := undef) rfl (by kernel_rfl) (by kernel_rfl) (by kernel_rfl) (fun _ _ _ h => h) (Or.inr ⟨by rfl, rfl⟩) (by assumption) ?_
            try simp only [Act.put, List.setIfInBounds_toArray, List.set_cons_zero, List.set_cons_succ]
            refine wpAnyH_take (i := 11) (oi := ({ dst := some 41, op := Go.Op.load 9 (Go.Operand.tmp 40), type := 9, pos := "tree.go:86", after := #[{ on := 10, ground := Go.Ground.data }, { on := 3, ground := Go.Ground.guard }], guard := some (3, false) } : Oper)) (v := undef) rfl (by kernel_rfl) (by kernel_rfl) (by kernel_rfl) (fun _ _ _ h => h) (Or.inr ⟨by rfl, rfl⟩) (by assumption) ?_
            try simp only [Act.put, List.setIfInBounds_toArray, List.set_cons_zero, List.set_cons_succ]
            refine wpAnyH_take (i := 12) (oi := ({ dst := some 42, op := Go.Op.binOp Go.BinOp.lss 9 (Go.Operand.tmp 39) (Go.Operand.tmp 41) 9, type := 4, pos := "tree.go:86", after := #[{ on := 9, ground := Go.Ground.data }, { on := 11, ground := Go.Ground.data }, { on := 3, ground := Go.Ground.guard }], guard := some (3, false) } : Oper)) (v := undef) rfl (by kernel_rfl) (by kernel_rfl) (by kernel_rfl) (fun _ _ _ h => h) (Or.inr ⟨by rfl, rfl⟩) (by assumption) ?_
            try simp only [Act.put, List.setIfInBounds_toArray, List.set_cons_zero, List.set_cons_succ]
            refine wpAnyH_take (i := 13) (oi := ({ dst := some 43, op := Go.Op.pick (Go.Operand.tmp 33) (Go.Operand.const (Go.Value.bool true)) (Go.Operand.tmp 42), type := 4, pos := "tree.go:86", after := #[{ on := 3, ground := Go.Ground.data }, { on := 12, ground := Go.Ground.data }], guard := none } : Oper)) (v := ?_) rfl (by kernel_rfl) (by kernel_rfl) (by kernel_rfl) (fun _ _ _ h => h) (Or.inl ⟨by rfl, ?_⟩) (by assumption) ?_
            rotate_left
            · (intro w hSw; (try dsimp only at hSw); go_simp; try with_reducible rfl)
            try simp only [Act.put, List.setIfInBounds_toArray, List.set_cons_zero, List.set_cons_succ]
            refine wpAnyH_ready (rs := [14]) (by kernel_rfl) (by simp) ?_
            refine (AllReadyH.cons (o := ({ dst := some 44, op := Go.Op.call { callee := Go.Callee.value (Go.Operand.func 38), args := #[Go.Operand.tmp 30, Go.Operand.tmp 43], argTypes := #[69, 4] }, type := 0, pos := "tree.go:86", after := #[{ on := 0, ground := Go.Ground.data }, { on := 13, ground := Go.Ground.data }, { on := 3, ground := Go.Ground.chain }], guard := none } : Oper)) rfl (fun K hK => ?_) AllReadyH.nil)
            go_simp
            (refine (ask_yes P S d s' _ (hS.rd.keep ke (by simp)) HC.out).mono ?_; rintro e w6 ⟨rfl, k6⟩; have ke := ke.trans' k6)
            go_wp2_with fail
            refine hK.out _ _ ?_ (fun hHeld1 => ?_)
            · (try dsimp only); exact ⟨ke.cell cC (by simp), ke.cell cA (by simp), ke.cell cx (by simp)⟩
            clear hK K
            try simp only [Act.put, List.setIfInBounds_toArray, List.set_cons_zero, List.set_cons_succ]
            refine wpAnyH_done (by kernel_rfl) ?_ _
            refine NoPanic.normal ?_
            (go_wp2_with fail; go_meet; case rel => exact ⟨ke, Lib.hid (upE_nil x)⟩)
          · obtain ⟨j, rfl⟩ : ∃ j, i = j + 1 := ⟨i - 1, by omega⟩
            obtain ⟨y, b, off, ey, rfl, cy⟩ := sl_at hs hll.out (i := j) (by omega)
            rw [HN.out] at cy
            have HEY := Lib.hid (upE_at (x := x) ey hll.out)
            have j1 : (((j + 1 : Nat) : Int) == 0) = false := by simp; omega
            have j8 : ((j : Int) + 1 == 0) = false := by simp; omega
            have j10 : ¬ ((j : Int) + 1 = 0) := by omega
            have j2 : IntKind.i64.wrap (((j + 1 : Nat) : Int) - 1) = (j : Nat) := by rw [IntWalk.i64_in _ (by omega)]; omega
            have j3 : wrap64 (((j + 1 : Nat) : Int) - 1) = (j : Nat) := by unfold wrap64; omega
            have j4 : ((j + 1 : Nat) : Int) - 1 = (j : Nat) := by omega
            have j5 : (j : Int) < (j + 1 : Nat) := by omega
            have j6 : (0 : Int) ≤ j := by omega
            have j7 : (j : Int) + 1 - 1 = j := by omega
            have j9 : IntKind.i64.wrap (j : Int) = (j : Int) := IntWalk.i64_in _ (by omega)
            have j11 : (j : Int) < (j : Int) + 1 := by omega
            obtain ⟨t, ht⟩ : ∃ t, y.name = t := ⟨_, rfl⟩
            obtain ⟨u, hu⟩ : ∃ t, x.name = t := ⟨_, rfl⟩
            rw [ht] at cy
            rw [hu] at cx
            have HTY := Lib.hid (show ltE y x = Op.bytesLess t.toList u.toList by rw [ltE, ht, hu])
            clear ey ht hu h0
            have ke : Keep [] W5 W5.drew := (Keep.refl [] W5).drew
            cases hlt2 : Op.bytesLess t.toList u.toList with
            | false =>
              have HG := Lib.hid (par_no (d := d) (by rw [HP2.out, manyE_no HM.out (by rw [HX.out.1, HEY.out, HTY.out, hlt2, Bool.and_false]) hlt]))
              refine wp_region_held_drew (S := fun w' => w'.cell? ⟨C, 0, none⟩ = some (.pointer (some ⟨P, 0, none⟩)) ∧ w'.cell? ⟨A, 0, none⟩ = some (.slice (some ⟨b, off, none⟩) (j + 1) co) ∧ w'.cell? ⟨px, 0, none⟩ = some (.string u) ∧ w'.cell? ⟨b, off + j * N, none⟩ = some (.string t)) (by kernel_rfl) ?_ (fun hHeld0 => ?_)
              · (try dsimp only); exact ⟨ke.cell cC (by simp), ke.cell cA (by simp), ke.cell cx (by simp), ke.cell cy (by simp)⟩
              refine wpAnyH_take (i := 0) (oi := ({ dst := some 30, op := Go.Op.load 69 (Go.Operand.tmp 4), type := 69, pos := "tree.go:86", after := #[], guard := none } : Oper)) (v := ?_) rfl (by kernel_rfl) (by kernel_rfl) (by kernel_rfl) (fun c a w h => back19 30 (by decide) (by decide) c a _ w h) (Or.inl ⟨by rfl, ?_⟩) (by assumption) ?_
              rotate_left
              · (intro w hSw; (try dsimp only at hSw); have q1 := hSw.1; go_simp; try with_reducible rfl)
              try simp only [Act.put, List.setIfInBounds_toArray, List.set_cons_zero, List.set_cons_succ]
              refine wpAnyH_take (i := 1) (oi := ({ dst := some 31, op := Go.Op.move (Go.Operand.tmp 6), type := 3, pos := "tree.go:86", after := #[], guard := none } : Oper)) (v := ?_) rfl (by kernel_rfl) (by kernel_rfl) (by kernel_rfl) (fun c a w h => back19 31 (by decide) (by decide) c a _ w h) (Or.inl ⟨by rfl, ?_⟩) (by assumption) ?_
              rotate_left
              · (intro w hSw; (try dsimp only at hSw); go_simp; try with_reducible rfl)
              try simp only [Act.put, List.setIfInBounds_toArray, List.set_cons_zero, List.set_cons_succ]
              refine wpAnyH_take (i := 2) (oi := ({ dst := some 32, op := Go.Op.binOp Go.BinOp.eql 3 (Go.Operand.tmp 31) (Go.Operand.const (Go.Value.int Go.IntKind.i64 0)) 3, type := 4, pos := "tree.go:86", after := #[{ on := 1, ground := Go.Ground.data }], guard := none } : Oper)) (v := ?_) rfl (by kernel_rfl) (by kernel_rfl) (by kernel_rfl) (fun c a w h => back19 32 (by decide) (by decide) c a _ w h) (Or.inl ⟨by rfl, ?_⟩) (by assumption) ?_
              rotate_left
              · (intro w hSw; (try dsimp only at hSw); go_simp; try with_reducible rfl)
              try simp only [Act.put, List.setIfInBounds_toArray, List.set_cons_zero, List.set_cons_succ]
              refine wpAnyH_take (i := 3) (oi := ({ dst := some 33, op := Go.Op.move (Go.Operand.tmp 32), type := 4, pos := "tree.go:86", after := #[{ on := 2, ground := Go.Ground.data }], guard := none } : Oper)) (v := ?_) rfl (by kernel_rfl) (by kernel_rfl) (by kernel_rfl) (fun c a w h => back19 33 (by decide) (by decide) c a _ w h) (Or.inl ⟨by rfl, ?_⟩) (by assumption) ?_
              rotate_left
              · (intro w hSw; (try dsimp only at hSw); go_simp; try with_reducible rfl)
              try simp only [Act.put, List.setIfInBounds_toArray, List.set_cons_zero, List.set_cons_succ]
              refine wpAnyH_take (i := 4) (oi := ({ dst := some 34, op := Go.Op.load 24 (Go.Operand.tmp 2), type := 24, pos := "tree.go:86", after := #[{ on := 3, ground := Go.Ground.guard }], guard := some (3, false) } : Oper)) (v := ?_) rfl (by kernel_rfl) (by kernel_rfl) (by kernel_rfl) (fun c a w h => back19 34 (by decide) (by decide) c a _ w h) (Or.inl ⟨by rfl, ?_⟩) (by assumption) ?_
              rotate_left
              · (intro w hSw; (try dsimp only at hSw); have q1 := hSw.2.1; go_simp; try with_reducible rfl)
              try simp only [Act.put, List.setIfInBounds_toArray, List.set_cons_zero, List.set_cons_succ]
              refine wpAnyH_take (i := 5) (oi := ({ dst := some 35, op := Go.Op.move (Go.Operand.tmp 6), type := 3, pos := "tree.go:86", after := #[{ on := 3, ground := Go.Ground.guard }], guard := some (3, false) } : Oper)) (v := ?_) rfl (by kernel_rfl) (by kernel_rfl) (by kernel_rfl) (fun c a w h => back19 35 (by decide) (by decide) c a _ w h) (Or.inl ⟨by rfl, ?_⟩) (by assumption) ?_
              rotate_left
              · (intro w hSw; (try dsimp only at hSw); go_simp; try with_reducible rfl)
              try simp only [Act.put, List.setIfInBounds_toArray, List.set_cons_zero, List.set_cons_succ]
              refine wpAnyH_take (i := 6) (oi := ({ dst := some 36, op := Go.Op.binOp Go.BinOp.sub 3 (Go.Operand.tmp 35) (Go.Operand.const (Go.Value.int Go.IntKind.i64 1)) 3, type := 3, pos := "tree.go:86", after := #[{ on := 5, ground := Go.Ground.data }, { on := 3, ground := Go.Ground.guard }], guard := some (3, false) } : Oper)) (v := ?_) rfl (by kernel_rfl) (by kernel_rfl) (by kernel_rfl) (fun c a w h => back19 36 (by decide) (by decide) c a _ w h) (Or.inl ⟨by rfl, ?_⟩) (by assumption) ?_
              rotate_left
              · (intro w hSw; (try dsimp only at hSw); go_simp; try with_reducible rfl)
              try simp only [Act.put, List.setIfInBounds_toArray, List.set_cons_zero, List.set_cons_succ]
              refine wpAnyH_take (i := 7) (oi := ({ dst := some 37, op := Go.Op.indexAddr 24 (Go.Operand.tmp 34) (Go.Operand.tmp 36), type := 0, pos := "tree.go:86", after := #[{ on := 4, ground := Go.Ground.data }, { on := 6, ground := Go.Ground.data }, { on := 3, ground := Go.Ground.guard }], guard := some (3, false) } : Oper)) (v := ?_) rfl (by kernel_rfl) (by kernel_rfl) (by kernel_rfl) (fun c a w h => back19 37 (by decide) (by decide) c a _ w h) (Or.inl ⟨by rfl, ?_⟩) (by assumption) ?_
              rotate_left
              · (intro w hSw; (try dsimp only at hSw); go_simp; try with_reducible rfl)
              try simp only [Act.put, List.setIfInBounds_toArray, List.set_cons_zero, List.set_cons_succ]
              refine wpAnyH_take (i := 8) (oi := ({ dst := some 38, op := Go.Op.fieldAddr 37 (Go.Operand.tmp 37) 0, type := 0, pos := "tree.go:86", after := #[{ on := 7, ground := Go.Ground.data }, { on := 3, ground := Go.Ground.guard }], guard := some (3, false) } : Oper)) (v := ?_) rfl (by kernel_rfl) (by kernel_rfl) (by kernel_rfl) (fun c a w h => back19 38 (by decide) (by decide) c a _ w h) (Or.inl ⟨by rfl, ?_⟩) (by assumption) ?_
              rotate_left
              · (intro w hSw; (try dsimp only at hSw); go_simp; try with_reducible rfl)
              try simp only [Act.put, List.setIfInBounds_toArray, List.set_cons_zero, List.set_cons_succ]
              refine wpAnyH_take (i := 9) (oi := ({ dst := some 39, op := Go.Op.load 9 (Go.Operand.tmp 38), type := 9, pos := "tree.go:86", after := #[{ on := 8, ground := Go.Ground.data }, { on := 3, ground := Go.Ground.guard }], guard := some (3, false) } : Oper)) (v := ?_) rfl (by kernel_rfl) (by kernel_rfl) (by kernel_rfl) (fun c a w h => back19 39 (by decide) (by decide) c a _ w h) (Or.inl ⟨by rfl, ?_⟩) (by assumption) ?_
              rotate_left
              · (intro w hSw; (try dsimp only at hSw); have q1 := hSw.2.2.2; go_simp; try with_reducible rfl)
              try simp only [Act.put, List.setIfInBounds_toArray, List.set_cons_zero, List.set_cons_succ]
              refine wpAnyH_take (i := 10) (oi := ({ dst := some 40, op := Go.Op.fieldAddr 37 (Go.Operand.tmp 7) 0, type := 0, pos := "tree.go:86", after := #[{ on := 3, ground := Go.Ground.guard }], guard := some (3, false) } : Oper)) (v := ?_) rfl (by kernel_rfl) (by kernel_rfl) (by kernel_rfl) (fun c a w h => back19 40 (by decide) (by decide) c a _ w h) (Or.inl ⟨by rfl, ?_⟩) (by assumption) ?_
              rotate_left
              · (intro w hSw; (try dsimp only at hSw); go_simp; try with_reducible rfl)
              try simp only [Act.put, List.setIfInBounds_toArray, List.set_cons_zero, List.set_cons_succ]
              refine wpAnyH_take (i := 11) (oi := ({ dst := some 41, op := Go.Op.load 9 (Go.Operand.tmp 40), type := 9, pos := "tree.go:86", after := #[{ on := 10, ground := Go.Ground.data }, { on := 3, ground := Go.Ground.guard }], guard := some (3, false) } : Oper)) (v := ?_) rfl (by kernel_rfl) (by kernel_rfl) (by kernel_rfl) (fun c a w h => back19 41 (by decide) (by decide) c a _ w h) (Or.inl ⟨by rfl, ?_⟩) (by assumption) ?_
              rotate_left
              · (intro w hSw; (try dsimp only at hSw); have q1 := hSw.2.2.1; go_simp; try with_reducible rfl)
              try simp only [Act.put, List.setIfInBounds_toArray, List.set_cons_zero, List.set_cons_succ]
              refine wpAnyH_take (i := 12) (oi := ({ dst := some 42, op := Go.Op.binOp Go.BinOp.lss 9 (Go.Operand.tmp 39) (Go.Operand.tmp 41) 9, type := 4, pos := "tree.go:86", after := #[{ on := 9, ground := Go.Ground.data }, { on := 11, ground := Go.Ground.data }, { on := 3, ground := Go.Ground.guard }], guard := some (3, false) } : Oper)) (v := ?_) rfl (by kernel_rfl) (by kernel_rfl) (by kernel_rfl) (fun c a w h => back19 42 (by decide) (by decide) c a _ w h) (Or.inl ⟨by rfl, ?_⟩) (by assumption) ?_
              rotate_left
              · (intro w hSw; (try dsimp only at hSw); go_simp; try with_reducible rfl)
              try simp only [Act.put, List.setIfInBounds_toArray, List.set_cons_zero, List.set_cons_succ]
              refine wpAnyH_take (i := 13) (oi := ({ dst := some 43, op := Go.Op.pick (Go.Operand.tmp 33) (Go.Operand.const (Go.Value.bool true)) (Go.Operand.tmp 42), type := 4, pos := "tree.go:86", after := #[{ on := 3, ground := Go.Ground.data }, { on := 12, ground := Go.Ground.data }], guard := none } : Oper)) (v := ?_) rfl (by kernel_rfl) (by kernel_rfl) (by kernel_rfl) (fun c a w h => back19 43 (by decide) (by decide) c a _ w h) (Or.inl ⟨by rfl, ?_⟩) (by assumption) ?_
              rotate_left
              · (intro w hSw; (try dsimp only at hSw); go_simp; try with_reducible rfl)
              try simp only [Act.put, List.setIfInBounds_toArray, List.set_cons_zero, List.set_cons_succ]
              refine wpAnyH_ready (rs := [14]) (by kernel_rfl) (by simp) ?_
              refine (AllReadyH.cons (o := ({ dst := some 44, op := Go.Op.call { callee := Go.Callee.value (Go.Operand.func 38), args := #[Go.Operand.tmp 30, Go.Operand.tmp 43], argTypes := #[69, 4] }, type := 0, pos := "tree.go:86", after := #[{ on := 0, ground := Go.Ground.data }, { on := 13, ground := Go.Ground.data }, { on := 3, ground := Go.Ground.chain }], guard := none } : Oper)) rfl (fun K hK => ?_) AllReadyH.nil)
              go_simp
              (refine (ask_no P S d s' false _ (hS.rd.keep ke (by simp)) (Or.inl rfl)).mono ?_; rintro e w6 ⟨rfl, k6⟩; have ke := ke.trans' k6)
              go_wp2_with fail
              have hS := hS.keep0 ke
              rw [HG.out.1, HG.out.2]
              refine leaves_cons (f := 36) (args := #[.pointer (some ⟨A, 0, none⟩), .pointer (some ⟨B, 0, none⟩)]) (by simp) (by simp [go_sem]) ?_
              refine (catch_gone A B _ _ _ hS.ba hS.bb hF.ab).mono ?_
              rintro e u' w'' ⟨rfl, rfl, g1, g2, gk⟩
              have c1 := g1.cell (i := 0) rfl
              have c2 := g2.cell (i := 0) rfl
              have gv := GiveT.nil (code := 70) (hS.k.trans gk (fun b hb => by simp only [List.mem_cons, List.not_mem_nil, or_false] at hb; rcases hb with rfl | rfl; exact Or.inr hF.a; exact Or.inr hF.b))
              simp [Leaves, settle, results, Tryd.results19, go_sem, c1, c2, goneR]
              exact gv
            | true =>
              have HL2 := Lib.hid hlt2
              refine wp_region_noPanic ?_
              refine wp_region_held_drew (S := fun w' => w'.cell? ⟨C, 0, none⟩ = some (.pointer (some ⟨P, 0, none⟩)) ∧ w'.cell? ⟨A, 0, none⟩ = some (.slice (some ⟨b, off, none⟩) (j + 1) co) ∧ w'.cell? ⟨px, 0, none⟩ = some (.string u) ∧ w'.cell? ⟨b, off + j * N, none⟩ = some (.string t)) (by kernel_rfl) ?_ (fun hHeld0 => ?_)
              · (try dsimp only); exact ⟨ke.cell cC (by simp), ke.cell cA (by simp), ke.cell cx (by simp), ke.cell cy (by simp)⟩
              refine wpAnyH_take (i := 0) (oi := ({ dst := some 30, op := Go.Op.load 69 (Go.Operand.tmp 4), type := 69, pos := "tree.go:86", after := #[], guard := none } : Oper)) (v := ?_) rfl (by kernel_rfl) (by kernel_rfl) (by kernel_rfl) (fun _ _ _ h => h) (Or.inl ⟨by rfl, ?_⟩) (by assumption) ?_
              rotate_left
              · (intro w hSw; (try dsimp only at hSw); have q1 := hSw.1; go_simp; try with_reducible rfl)
              try simp only [Act.put, List.setIfInBounds_toArray, List.set_cons_zero, List.set_cons_succ]
              refine wpAnyH_take (i := 1) (oi := ({ dst := some 31, op := Go.Op.move (Go.Operand.tmp 6), type := 3, pos := "tree.go:86", after := #[], guard := none } : Oper)) (v := ?_) rfl (by kernel_rfl) (by kernel_rfl) (by kernel_rfl) (fun _ _ _ h => h) (Or.inl ⟨by rfl, ?_⟩) (by assumption) ?_
              rotate_left
              · (intro w hSw; (try dsimp only at hSw); go_simp; try with_reducible rfl)
              try simp only [Act.put, List.setIfInBounds_toArray, List.set_cons_zero, List.set_cons_succ]
              refine wpAnyH_take (i := 2) (oi := ({ dst := some 32, op := Go.Op.binOp Go.BinOp.eql 3 (Go.Operand.tmp 31) (Go.Operand.const (Go.Value.int Go.IntKind.i64 0)) 3, type := 4, pos := "tree.go:86", after := #[{ on := 1, ground := Go.Ground.data }], guard := none } : Oper)) (v := ?_) rfl (by kernel_rfl) (by kernel_rfl) (by kernel_rfl) (fun _ _ _ h => h) (Or.inl ⟨by rfl, ?_⟩) (by assumption) ?_
              rotate_left
              · (intro w hSw; (try dsimp only at hSw); go_simp; try with_reducible rfl)
              try simp only [Act.put, List.setIfInBounds_toArray, List.set_cons_zero, List.set_cons_succ]
              refine wpAnyH_take (i := 3) (oi := ({ dst := some 33, op := Go.Op.move (Go.Operand.tmp 32), type := 4, pos := "tree.go:86", after := #[{ on := 2, ground := Go.Ground.data }], guard := none } : Oper)) (v := ?_) rfl (by kernel_rfl) (by kernel_rfl) (by kernel_rfl) (fun _ _ _ h => h) (Or.inl ⟨by rfl, ?_⟩) (by assumption) ?_
              rotate_left
              · (intro w hSw; (try dsimp only at hSw); go_simp; try with_reducible rfl)
              try simp only [Act.put, List.setIfInBounds_toArray, List.set_cons_zero, List.set_cons_succ]
              refine wpAnyH_take (i := 4) (oi := ({ dst := some 34, op := Go.Op.load 24 (Go.Operand.tmp 2), type := 24, pos := "tree.go:86", after := #[{ on := 3, ground := Go.Ground.guard }], guard := some (3, false) } : Oper)) (v := ?_) rfl (by kernel_rfl) (by kernel_rfl) (by kernel_rfl) (fun _ _ _ h => h) (Or.inl ⟨by rfl, ?_⟩) (by assumption) ?_
              rotate_left
              · (intro w hSw; (try dsimp only at hSw); have q1 := hSw.2.1; go_simp; try with_reducible rfl)
              try simp only [Act.put, List.setIfInBounds_toArray, List.set_cons_zero, List.set_cons_succ]
              refine wpAnyH_take (i := 5) (oi := ({ dst := some 35, op := Go.Op.move (Go.Operand.tmp 6), type := 3, pos := "tree.go:86", after := #[{ on := 3, ground := Go.Ground.guard }], guard := some (3, false) } : Oper)) (v := ?_) rfl (by kernel_rfl) (by kernel_rfl) (by kernel_rfl) (fun _ _ _ h => h) (Or.inl ⟨by rfl, ?_⟩) (by assumption) ?_
              rotate_left
              · (intro w hSw; (try dsimp only at hSw); go_simp; try with_reducible rfl)
              try simp only [Act.put, List.setIfInBounds_toArray, List.set_cons_zero, List.set_cons_succ]
              refine wpAnyH_take (i := 6) (oi := ({ dst := some 36, op := Go.Op.binOp Go.BinOp.sub 3 (Go.Operand.tmp 35) (Go.Operand.const (Go.Value.int Go.IntKind.i64 1)) 3, type := 3, pos := "tree.go:86", after := #[{ on := 5, ground := Go.Ground.data }, { on := 3, ground := Go.Ground.guard }], guard := some (3, false) } : Oper)) (v := ?_) rfl (by kernel_rfl) (by kernel_rfl) (by kernel_rfl) (fun _ _ _ h => h) (Or.inl ⟨by rfl, ?_⟩) (by assumption) ?_
              rotate_left
              · (intro w hSw; (try dsimp only at hSw); go_simp; try with_reducible rfl)
              try simp only [Act.put, List.setIfInBounds_toArray, List.set_cons_zero, List.set_cons_succ]
              refine wpAnyH_take (i := 7) (oi := ({ dst := some 37, op := Go.Op.indexAddr 24 (Go.Operand.tmp 34) (Go.Operand.tmp 36), type := 0, pos := "tree.go:86", after := #[{ on := 4, ground := Go.Ground.data }, { on := 6, ground := Go.Ground.data }, { on := 3, ground := Go.Ground.guard }], guard := some (3, false) } : Oper)) (v := ?_) rfl (by kernel_rfl) (by kernel_rfl) (by kernel_rfl) (fun _ _ _ h => h) (Or.inl ⟨by rfl, ?_⟩) (by assumption) ?_
              rotate_left
              · (intro w hSw; (try dsimp only at hSw); go_simp; try with_reducible rfl)
              try simp only [Act.put, List.setIfInBounds_toArray, List.set_cons_zero, List.set_cons_succ]
              refine wpAnyH_take (i := 8) (oi := ({ dst := some 38, op := Go.Op.fieldAddr 37 (Go.Operand.tmp 37) 0, type := 0, pos := "tree.go:86", after := #[{ on := 7, ground := Go.Ground.data }, { on := 3, ground := Go.Ground.guard }], guard := some (3, false) } : Oper)) (v := ?_) rfl (by kernel_rfl) (by kernel_rfl) (by kernel_rfl) (fun _ _ _ h => h) (Or.inl ⟨by rfl, ?_⟩) (by assumption) ?_
              rotate_left
              · (intro w hSw; (try dsimp only at hSw); go_simp; try with_reducible rfl)
              try simp only [Act.put, List.setIfInBounds_toArray, List.set_cons_zero, List.set_cons_succ]
              refine wpAnyH_take (i := 9) (oi := ({ dst := some 39, op := Go.Op.load 9 (Go.Operand.tmp 38), type := 9, pos := "tree.go:86", after := #[{ on := 8, ground := Go.Ground.data }, { on := 3, ground := Go.Ground.guard }], guard := some (3, false) } : Oper)) (v := ?_) rfl (by kernel_rfl) (by kernel_rfl) (by kernel_rfl) (fun _ _ _ h => h) (Or.inl ⟨by rfl, ?_⟩) (by assumption) ?_
              rotate_left
              · (intro w hSw; (try dsimp only at hSw); have q1 := hSw.2.2.2; go_simp; try with_reducible rfl)
              try simp only [Act.put, List.setIfInBounds_toArray, List.set_cons_zero, List.set_cons_succ]
              refine wpAnyH_take (i := 10) (oi := ({ dst := some 40, op := Go.Op.fieldAddr 37 (Go.Operand.tmp 7) 0, type := 0, pos := "tree.go:86", after := #[{ on := 3, ground := Go.Ground.guard }], guard := some (3, false) } : Oper)) (v := ?_) rfl (by kernel_rfl) (by kernel_rfl) (by kernel_rfl) (fun _ _ _ h => h) (Or.inl ⟨by rfl, ?_⟩) (by assumption) ?_
              rotate_left
              · (intro w hSw; (try dsimp only at hSw); go_simp; try with_reducible rfl)
              try simp only [Act.put, List.setIfInBounds_toArray, List.set_cons_zero, List.set_cons_succ]
              refine wpAnyH_take (i := 11) (oi := ({ dst := some 41, op := Go.Op.load 9 (Go.Operand.tmp 40), type := 9, pos := "tree.go:86", after := #[{ on := 10, ground := Go.Ground.data }, { on := 3, ground := Go.Ground.guard }], guard := some (3, false) } : Oper)) (v := ?_) rfl (by kernel_rfl) (by kernel_rfl) (by kernel_rfl) (fun _ _ _ h => h) (Or.inl ⟨by rfl, ?_⟩) (by assumption) ?_
              rotate_left
              · (intro w hSw; (try dsimp only at hSw); have q1 := hSw.2.2.1; go_simp; try with_reducible rfl)
              try simp only [Act.put, List.setIfInBounds_toArray, List.set_cons_zero, List.set_cons_succ]
              refine wpAnyH_take (i := 12) (oi := ({ dst := some 42, op := Go.Op.binOp Go.BinOp.lss 9 (Go.Operand.tmp 39) (Go.Operand.tmp 41) 9, type := 4, pos := "tree.go:86", after := #[{ on := 9, ground := Go.Ground.data }, { on := 11, ground := Go.Ground.data }, { on := 3, ground := Go.Ground.guard }], guard := some (3, false) } : Oper)) (v := ?_) rfl (by kernel_rfl) (by kernel_rfl) (by kernel_rfl) (fun _ _ _ h => h) (Or.inl ⟨by rfl, ?_⟩) (by assumption) ?_
              rotate_left
              · (intro w hSw; (try dsimp only at hSw); go_simp; try with_reducible rfl)
              try simp only [Act.put, List.setIfInBounds_toArray, List.set_cons_zero, List.set_cons_succ]
              refine wpAnyH_take (i := 13) (oi := ({ dst := some 43, op := Go.Op.pick (Go.Operand.tmp 33) (Go.Operand.const (Go.Value.bool true)) (Go.Operand.tmp 42), type := 4, pos := "tree.go:86", after := #[{ on := 3, ground := Go.Ground.data }, { on := 12, ground := Go.Ground.data }], guard := none } : Oper)) (v := ?_) rfl (by kernel_rfl) (by kernel_rfl) (by kernel_rfl) (fun _ _ _ h => h) (Or.inl ⟨by rfl, ?_⟩) (by assumption) ?_
              rotate_left
              · (intro w hSw; (try dsimp only at hSw); go_simp; try with_reducible rfl)
              try simp only [Act.put, List.setIfInBounds_toArray, List.set_cons_zero, List.set_cons_succ]
              refine wpAnyH_ready (rs := [14]) (by kernel_rfl) (by simp) ?_
              refine (AllReadyH.cons (o := ({ dst := some 44, op := Go.Op.call { callee := Go.Callee.value (Go.Operand.func 38), args := #[Go.Operand.tmp 30, Go.Operand.tmp 43], argTypes := #[69, 4] }, type := 0, pos := "tree.go:86", after := #[{ on := 0, ground := Go.Ground.data }, { on := 13, ground := Go.Ground.data }, { on := 3, ground := Go.Ground.chain }], guard := none } : Oper)) rfl (fun K hK => ?_) AllReadyH.nil)
              go_simp
              (refine (ask_yes P S d s' _ (hS.rd.keep ke (by simp)) HC.out).mono ?_; rintro e w6 ⟨rfl, k6⟩; have ke := ke.trans' k6)
              go_wp2_with fail
              refine hK.out _ _ ?_ (fun hHeld1 => ?_)
              · (try dsimp only); exact ⟨ke.cell cC (by simp), ke.cell cA (by simp), ke.cell cx (by simp), ke.cell cy (by simp)⟩
              clear hK K
              try simp only [Act.put, List.setIfInBounds_toArray, List.set_cons_zero, List.set_cons_succ]
              refine wpAnyH_done (by kernel_rfl) ?_ _
              refine NoPanic.normal ?_
              (go_wp2_with fail; go_meet; case rel => exact ⟨ke, Lib.hid (by rw [HEY.out, HTY.out, HL2.out])⟩)
        case rest =>
          obtain ⟨kc, HU⟩ := hcut
          have hS := hS.keep0 kc
          have hs := hs.keep kc (by simp)
          have BX := BX.keep kc (by simp)
          obtain ⟨q8, hq8⟩ : ∃ q, wc.heap.size = q := ⟨_, rfl⟩
          obtain ⟨w9, hw9⟩ : ∃ W, wc.alloc (.cells x.cells.toArray 37) = W := ⟨_, rfl⟩
          have hab := after_build (x := x) hs
          rw [hw9, hq8] at hab
          have hS9 := hS.keep0 hab.2.2
          have cA := hS.ba.cell (i := 0) rfl
          have HW9 := Lib.hid hw9
          have HQ8 := Lib.hid hq8
          have i32 : i + 1 ≤ 32 := by omega
          have HO := Lib.hid hO
          clear hw9 hq8 cC cx rX hO hpxO hso
          go_upto_region 12 with (first
            | (refine wpList_load_mid rfl 37 (.tmp 7) rfl px 0 rfl x.cells _ (rangeAt_of_blk BX) Tryd.underlying37 rfl (hi37 x) ?_)
            | (refine wpList_build1 rfl 24 37 (.tmp 46) rfl x.cells.toArray rfl _ 34 56 Tryd.underlying24 info37 (by simp [x.len]) (by omega) (by omega) ?_; rw [HW9.out, HQ8.out])
            | (at_builtin; go_must (refine wpList_appendN rfl (.tmp 45) (.tmp 47) 24 rfl 37 _ 34 56 Tryd.underlying24 info37 zeroC37 (by omega) (.slice ao i co) i (cellsOf l) rfl hab.1 (some ⟨q8, 0, none⟩) 1 1 x.cells rfl (ent_len1 x) (by simp) hab.2.1 x.one (by simp only [maxLen]; omega) (by omega) ?_; intro a6 c6 w6 hs6 hk6 hf6; have hS6 := hS9.keep hk6 HO.out))
            | (have h6 := hS6; refine wpList_store_oneTo rfl 24 (.tmp 2) (.tmp 48) rfl rfl A (.slice a6 (i + 1) c6) rfl rfl rfl 24 _ hS6.ba (by kernel_rfl) ?_)
            | fail)
          clear cA
          go_wp2_with fail
          exact ⟨PL.next hF (by omega) (by go_num) HM.out (by rw [HK.out, HX.out.1, HU.out]; rfl) HX.out.1 HX.out.2 hS9 hS6 hs6 hf6 HO.out, by simp [intOf]; omega⟩
    · obtain rfl : i = n1 := by omega
      have hcd := manyE_code Q6.out HM.out
      have HP3 := Lib.hid (show parO d = if rLeft d s = 0 ∧ s.code = 0 then some l else none by rw [HP2.out, HM.out])
      have HCD := Lib.hid hcd
      obtain ⟨lf, hlf⟩ : ∃ n, rLeft d s = n := ⟨_, rfl⟩
      have L1 := Lib.hid (fun W h => by have := rleft_any P S d s W h; rw [hlf] at this; exact this : ∀ W, RdAt W P S d s → Calls Tryd.prog 42 #[.pointer (some ⟨P, 0, none⟩)] W fun e w' => e = .returned (.int .i64 (lf : Nat)) ∧ RdAt w' P S d s ∧ Keep [] W w')
      rw [hlf, hcd] at HP3
      clear hcd hlf hlt
      by_cases q8 : lf = 0
      case neg =>
        have HG := Lib.hid (par_no (d := d) (by rw [HP3.out]; exact if_neg (fun h => q8 h.1)))
        have q9 : ((lf : Int) == 0) = false := by simp; omega
        have hS := hS.drew
        have hs := hs.keep ((Keep.refl [] wr).drew) (by simp)
        go_upto_region 13 with fail
        refine wp_region_held_drew (S := fun w' => w'.cell? ⟨C, 0, none⟩ = some (.pointer (some ⟨P, 0, none⟩))) (by kernel_rfl) ?_ (fun hHeld0 => ?_)
        · (try dsimp only); exact hS.bc.cell (i := 0) rfl
        refine wpAnyH_take (i := 0) (oi := ({ dst := some 50, op := Go.Op.load 69 (Go.Operand.tmp 4), type := 69, pos := "tree.go:89", after := #[], guard := none } : Oper)) (v := ?_) rfl (by kernel_rfl) (by kernel_rfl) (by kernel_rfl) (fun c a w h => back19 50 (by decide) (by decide) c a _ w h) (Or.inl ⟨by rfl, ?_⟩) (by assumption) ?_
        rotate_left
        · (intro w hSw; (try dsimp only at hSw); go_simp; try with_reducible rfl)
        try simp only [Act.put, List.setIfInBounds_toArray, List.set_cons_zero, List.set_cons_succ]
        refine wpAnyH_take (i := 1) (oi := ({ dst := some 51, op := Go.Op.fieldAddr 69 (Go.Operand.tmp 4) 0, type := 0, pos := "tree.go:89", after := #[], guard := none } : Oper)) (v := ?_) rfl (by kernel_rfl) (by kernel_rfl) (by kernel_rfl) (fun c a w h => back19 51 (by decide) (by decide) c a _ w h) (Or.inl ⟨by rfl, ?_⟩) (by assumption) ?_
        rotate_left
        · (intro w hSw; (try dsimp only at hSw); go_simp; try with_reducible rfl)
        try simp only [Act.put, List.setIfInBounds_toArray, List.set_cons_zero, List.set_cons_succ]
        refine wpAnyH_take (i := 2) (oi := ({ dst := some 52, op := Go.Op.load 67 (Go.Operand.tmp 51), type := 67, pos := "tree.go:89", after := #[{ on := 1, ground := Go.Ground.data }], guard := none } : Oper)) (v := ?_) rfl (by kernel_rfl) (by kernel_rfl) (by kernel_rfl) (fun c a w h => back19 52 (by decide) (by decide) c a _ w h) (Or.inl ⟨by rfl, ?_⟩) (by assumption) ?_
        rotate_left
        · (intro w hSw; (try dsimp only at hSw); go_simp; try with_reducible rfl)
        try simp only [Act.put, List.setIfInBounds_toArray, List.set_cons_zero, List.set_cons_succ]
        refine wpAnyH_ready (rs := [3]) (by kernel_rfl) (by simp) ?_
        refine (AllReadyH.cons (o := ({ dst := some 53, op := Go.Op.call { callee := Go.Callee.value (Go.Operand.func 42), args := #[Go.Operand.tmp 52], argTypes := #[67] }, type := 3, pos := "tree.go:89", after := #[{ on := 2, ground := Go.Ground.data }], guard := none } : Oper)) rfl (fun K hK => ?_) AllReadyH.nil)
        go_simp
        (refine (L1.out _ hS.rd).mono ?_; rintro e w' ⟨rfl, hRn, kn⟩; have hS := hS.keep0 kn; have hs := hs.keep kn (by simp))
        go_wp2_with fail
        refine hK.out _ _ ?_ (fun hHeld1 => ?_)
        · (try dsimp only); exact hS.bc.cell (i := 0) rfl
        clear hK K
        try simp only [Act.put, List.setIfInBounds_toArray, List.set_cons_zero, List.set_cons_succ]
        refine wpAnyH_take (i := 4) (oi := ({ dst := some 54, op := Go.Op.binOp Go.BinOp.eql 3 (Go.Operand.tmp 53) (Go.Operand.const (Go.Value.int Go.IntKind.i64 0)) 3, type := 4, pos := "tree.go:89", after := #[{ on := 3, ground := Go.Ground.data }], guard := none } : Oper)) (v := ?_) rfl (by kernel_rfl) (by kernel_rfl) (by kernel_rfl) (fun c a w h => back19 54 (by decide) (by decide) c a _ w h) (Or.inl ⟨by rfl, ?_⟩) (by assumption) ?_
        rotate_left
        · (intro w hSw; (try dsimp only at hSw); go_simp; try with_reducible rfl)
        try simp only [Act.put, List.setIfInBounds_toArray, List.set_cons_zero, List.set_cons_succ]
        refine wpAnyH_ready (rs := [5]) (by kernel_rfl) (by simp) ?_
        refine (AllReadyH.cons (o := ({ dst := some 55, op := Go.Op.call { callee := Go.Callee.value (Go.Operand.func 38), args := #[Go.Operand.tmp 50, Go.Operand.tmp 54], argTypes := #[69, 4] }, type := 0, pos := "tree.go:89", after := #[{ on := 0, ground := Go.Ground.data }, { on := 4, ground := Go.Ground.data }, { on := 3, ground := Go.Ground.chain }], guard := none } : Oper)) rfl (fun K hK => ?_) AllReadyH.nil)
        go_simp
        (refine (ask_no P S d s false _ hS.rd (Or.inl rfl)).mono ?_; rintro e w' ⟨rfl, kn⟩; have hS := hS.keep0 kn)
        go_wp2_with fail
        rw [HG.out.1, HG.out.2]
        refine leaves_cons (f := 36) (args := #[.pointer (some ⟨A, 0, none⟩), .pointer (some ⟨B, 0, none⟩)]) (by simp) (by simp [go_sem]) ?_
        refine (catch_gone A B _ _ _ hS.ba hS.bb hF.ab).mono ?_
        rintro e u' w'' ⟨rfl, rfl, g1, g2, gk⟩
        have c1 := g1.cell (i := 0) rfl
        have c2 := g2.cell (i := 0) rfl
        have gv := GiveT.nil (code := 70) (hS.k.trans gk (fun b hb => by simp only [List.mem_cons, List.not_mem_nil, or_false] at hb; rcases hb with rfl | rfl; exact Or.inr hF.a; exact Or.inr hF.b))
        simp [Leaves, settle, results, Tryd.results19, go_sem, c1, c2, goneR]
        exact gv
      subst q8
      obtain ⟨g1, g2⟩ := par_yes (d := d) (l := l) (by rw [HP3.out]; rfl)
      have HG := Lib.hid (And.intro g1 g2)
      clear g1 g2 HP3
      have hS := hS.drew
      have hs := hs.keep ((Keep.refl [] wr).drew) (by simp)
      go_upto_region 13 with fail
      refine wp_region_noPanic ?_
      refine wp_region_held_drew (S := fun w' => w'.cell? ⟨C, 0, none⟩ = some (.pointer (some ⟨P, 0, none⟩))) (by kernel_rfl) ?_ (fun hHeld0 => ?_)
      · (try dsimp only); exact hS.bc.cell (i := 0) rfl
      refine wpAnyH_take (i := 0) (oi := ({ dst := some 50, op := Go.Op.load 69 (Go.Operand.tmp 4), type := 69, pos := "tree.go:89", after := #[], guard := none } : Oper)) (v := ?_) rfl (by kernel_rfl) (by kernel_rfl) (by kernel_rfl) (fun _ _ _ h => h) (Or.inl ⟨by rfl, ?_⟩) (by assumption) ?_
      rotate_left
      · (intro w hSw; (try dsimp only at hSw); go_simp; try with_reducible rfl)
      try simp only [Act.put, List.setIfInBounds_toArray, List.set_cons_zero, List.set_cons_succ]
      refine wpAnyH_take (i := 1) (oi := ({ dst := some 51, op := Go.Op.fieldAddr 69 (Go.Operand.tmp 4) 0, type := 0, pos := "tree.go:89", after := #[], guard := none } : Oper)) (v := ?_) rfl (by kernel_rfl) (by kernel_rfl) (by kernel_rfl) (fun _ _ _ h => h) (Or.inl ⟨by rfl, ?_⟩) (by assumption) ?_
      rotate_left
      · (intro w hSw; (try dsimp only at hSw); go_simp; try with_reducible rfl)
      try simp only [Act.put, List.setIfInBounds_toArray, List.set_cons_zero, List.set_cons_succ]
      refine wpAnyH_take (i := 2) (oi := ({ dst := some 52, op := Go.Op.load 67 (Go.Operand.tmp 51), type := 67, pos := "tree.go:89", after := #[{ on := 1, ground := Go.Ground.data }], guard := none } : Oper)) (v := ?_) rfl (by kernel_rfl) (by kernel_rfl) (by kernel_rfl) (fun _ _ _ h => h) (Or.inl ⟨by rfl, ?_⟩) (by assumption) ?_
      rotate_left
      · (intro w hSw; (try dsimp only at hSw); go_simp; try with_reducible rfl)
      try simp only [Act.put, List.setIfInBounds_toArray, List.set_cons_zero, List.set_cons_succ]
      refine wpAnyH_ready (rs := [3]) (by kernel_rfl) (by simp) ?_
      refine (AllReadyH.cons (o := ({ dst := some 53, op := Go.Op.call { callee := Go.Callee.value (Go.Operand.func 42), args := #[Go.Operand.tmp 52], argTypes := #[67] }, type := 3, pos := "tree.go:89", after := #[{ on := 2, ground := Go.Ground.data }], guard := none } : Oper)) rfl (fun K hK => ?_) AllReadyH.nil)
      go_simp
      (refine (L1.out _ hS.rd).mono ?_; rintro e w' ⟨rfl, hRn, kn⟩; have hS := hS.keep0 kn; have hs := hs.keep kn (by simp))
      go_wp2_with fail
      refine hK.out _ _ ?_ (fun hHeld1 => ?_)
      · (try dsimp only); exact hS.bc.cell (i := 0) rfl
      clear hK K
      try simp only [Act.put, List.setIfInBounds_toArray, List.set_cons_zero, List.set_cons_succ]
      refine wpAnyH_take (i := 4) (oi := ({ dst := some 54, op := Go.Op.binOp Go.BinOp.eql 3 (Go.Operand.tmp 53) (Go.Operand.const (Go.Value.int Go.IntKind.i64 0)) 3, type := 4, pos := "tree.go:89", after := #[{ on := 3, ground := Go.Ground.data }], guard := none } : Oper)) (v := ?_) rfl (by kernel_rfl) (by kernel_rfl) (by kernel_rfl) (fun _ _ _ h => h) (Or.inl ⟨by rfl, ?_⟩) (by assumption) ?_
      rotate_left
      · (intro w hSw; (try dsimp only at hSw); go_simp; try with_reducible rfl)
      try simp only [Act.put, List.setIfInBounds_toArray, List.set_cons_zero, List.set_cons_succ]
      refine wpAnyH_ready (rs := [5]) (by kernel_rfl) (by simp) ?_
      refine (AllReadyH.cons (o := ({ dst := some 55, op := Go.Op.call { callee := Go.Callee.value (Go.Operand.func 38), args := #[Go.Operand.tmp 50, Go.Operand.tmp 54], argTypes := #[69, 4] }, type := 0, pos := "tree.go:89", after := #[{ on := 0, ground := Go.Ground.data }, { on := 4, ground := Go.Ground.data }, { on := 3, ground := Go.Ground.chain }], guard := none } : Oper)) rfl (fun K hK => ?_) AllReadyH.nil)
      go_simp
      (refine (ask_yes P S d s _ hS.rd (HCD.out)).mono ?_; rintro e w' ⟨rfl, kn⟩; have hS := hS.keep0 kn; have hs := hs.keep kn (by simp))
      go_wp2_with fail
      refine hK.out _ _ ?_ (fun hHeld2 => ?_)
      · (try dsimp only); exact hS.bc.cell (i := 0) rfl
      clear hK K
      try simp only [Act.put, List.setIfInBounds_toArray, List.set_cons_zero, List.set_cons_succ]
      refine wpAnyH_done (by kernel_rfl) ?_ _
      refine NoPanic.normal ?_
      skip
      have cA := hS.ba.cell (i := 0) rfl
      have fA := hS.ba.free (i := 0)
      have bA := hS.ba.set 0 (.slice ao i co)
      have bB := hS.bb.setOther (a := ⟨A, 0, none⟩) hF.ab.symm (.slice ao i co)
      have cB := bB.cell (i := 0) rfl
      have fB := bB.free (i := 0)
      have k6 := (Keep.set_one w' ⟨A, 0, none⟩ (.slice ao i co))
      have hs6 := hs.keep k6 (fun b hb hb' => by simp only [List.mem_singleton] at hb'; exact (hO b hb).1 hb')
      have bA2 := bA.setOther (a := ⟨B, 0, none⟩) hF.ab (.int .i64 0)
      have bB2 := bB.set 0 (.int .i64 0)
      have k7 := (Keep.set_one (w'.setCell ⟨A, 0, none⟩ (.slice ao i co)) ⟨B, 0, none⟩ (.int .i64 0))
      have hs7 := hs6.keep k7 (fun b hb hb' => by simp only [List.mem_singleton] at hb'; exact (hO b hb).2.1 hb')
      have hkk : Keep [] w ((w'.setCell ⟨A, 0, none⟩ (.slice ao i co)).setCell ⟨B, 0, none⟩ (.int .i64 0)) := (hS.k.trans k6 (fun b hb => by simp only [List.mem_singleton] at hb; subst hb; exact Or.inr hF.a)).trans k7 (fun b hb => by simp only [List.mem_singleton] at hb; subst hb; exact Or.inr hF.b)
      have cA2 := bA2.cell (i := 0) rfl
      have cB2 := bB2.cell (i := 0) rfl
      go_wp2_with fail
      generalize (w'.setCell ⟨A, 0, none⟩ (.slice ao i co)).setCell ⟨B, 0, none⟩ (.int .i64 0) = W9 at hs7 hkk cA2 cB2 ⊢
      rw [HG.out.1, HG.out.2]
      refine leaves_cons (f := 36) (args := #[.pointer (some ⟨A, 0, none⟩), .pointer (some ⟨B, 0, none⟩)]) (by simp) (by simp [go_sem]) ?_
      refine (catch_idle ⟨A, 0, none⟩ ⟨B, 0, none⟩ _).mono ?_
      rintro e u' w'' ⟨rfl, rfl, rfl⟩
      have hil : i = l.length := hll.out.symm
      have gv : GiveT w l 0 (.returned (.tuple #[.slice ao i co, .int .i64 0])) w'' := ⟨ao, co, by rw [hil], by rw [← hil]; exact hs7, by rw [← hil]; exact fun b hb => Or.inr (hO b hb).2.2.2.2, hkk⟩
      have cA3 : w''.cell? ⟨A, 0, none⟩ = some (.slice ao i co) := cA2
      have cB3 : w''.cell? ⟨B, 0, none⟩ = some (.int .i64 0) := cB2
      clear cA2 cB2
      simp [Leaves, settle, results, Tryd.results19, go_sem, cA3, cB3]
      exact gv
end Go.Proofs.YtgeihjpifbkpkaaDoor

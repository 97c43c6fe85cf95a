/- slices.Insert of one result. -/
import Derived.Test.YtjdkeabimcajlaaCq
set_option linter.unusedVariables false
set_option linter.unusedSimpArgs false
namespace Go.Proofs.Ytjdkeabimcajlaa
open Go.RowKit

theorem ins_len (l : List Res) {i n : Nat} (hl : l.length = n) (hi : i ≤ n) (x : Res) : (cellsOf (l.take i)).length = i * 65 ∧ (cellsOf (l.drop i)).length = (n - i) * 65 ∧ cellsOf l = cellsOf (l.take i) ++ cellsOf (l.drop i) ∧ cellsOf (l.take i ++ ([x] ++ l.drop i)) = cellsOf (l.take i) ++ (x.cells ++ cellsOf (l.drop i)) := by
  refine ⟨by rw [cellsOf_len, List.length_take, Nat.min_eq_left (by omega)], by rw [cellsOf_len, List.length_drop, hl], by rw [← cellsOf_append, List.take_append_drop], by rw [cellsOf_append, cellsOf_append, cellsOf_one]⟩

theorem hs39 : (Try.prog.info? 39).map (·.size) = some 65 := by kernel_rfl

theorem shape_of_blk {w : World} {b : Nat} {c : Array Value} {t : TypeId} (h : Blk w b c t) : w.shape? b = some (t, c.size) := by
  have h' : w.heap[b]? = some (.cells c t (0, 0)) := h
  simp [World.shape?, h']
theorem grow_end {w w1 w3 : World} {H N n i d cap : Nat} {A D Z3 : List Value} {x : Res} (HE : 65 = N ∧ n = i + d ∧ cap ≤ maxLen ∧ cap * N ≤ i * N + (N + (d * N + Z3.length)) ∧ A.length = i * N ∧ D.length = d * N ∧ x.cells.length = N ∧ Keep [] w w1) (hH : w.heap.size = H) (hcap : n + 1 ≤ cap)
    (hB : Blk w3 H ((A ++ x.cells) ++ (D ++ Z3)).toArray 39) (k3 : Keep [H] w1 w3) :
    ∃ a' c', Ending.returned (.slice (some ⟨H, 0, none⟩) (n + 1) cap) = .returned (.slice a' (n + 1) c') ∧ Sl w3 39 65 (.slice a' (n + 1) c') (n + 1) (A ++ (x.cells ++ D)) ∧ (∀ b ∈ blks (.slice a' (n + 1) c'), w.heap.size ≤ b) ∧ Keep [] w w3 := by
  obtain ⟨hN, hd, hmax, hcz, hA, hD, hX, k1⟩ := HE
  subst hN
  refine ⟨_, _, rfl, ⟨?_, Or.inr ⟨H, cap, [], Z3, rfl, ?_, hcap, ?_, hmax⟩⟩, by intro b hb; simp [blks, Value.ownBlock] at hb; omega, k1.trans k3 (by simp; omega)⟩
  · rw [List.length_append, List.length_append, hA, hD, hX]; omega
  · exact blk_of hB (by simp)
  · rw [List.length_append, List.length_append, hA, hD, hX]; omega

set_option maxHeartbeats 1000000 in
set_option maxRecDepth 100000 in
theorem ins_grow (g c n d i : Nat) (pre A D post : List Value) (x : Res) (vb : Nat) (w : World) (hb : Blk w g (pre ++ ((A ++ D) ++ post)).toArray 39) (hA : A.length = i * 65) (hD : D.length = d * 65) (h1 : ∀ v ∈ A ++ D, v.oneCell' = true)
    (hd : n = i + d) (hd0 : 0 < d) (hnc : n ≤ c) (hc : c < n + 1) (hn : n ≤ 1000) (hv : Blk w vb x.cells.toArray 39) :
    Calls Try.prog 47 #[.slice (some ⟨g, pre.length, none⟩) n c, .int .i64 (i : Nat), .slice (some ⟨vb, 0, none⟩) 1 1] w fun e w' => ∃ a' c', e = .returned (.slice a' (n + 1) c') ∧ Sl w' 39 65 (.slice a' (n + 1) c') (n + 1) (A ++ (x.cells ++ D)) ∧ (∀ b ∈ blks (.slice a' (n + 1) c'), w.heap.size ≤ b) ∧ Keep [] w w' := by
  have hXl := x.len
  have hs := hs39
  have hg := hb.lt
  have hvl := hv.lt
  obtain ⟨off, hoff⟩ : ∃ off, pre.length = off := ⟨_, rfl⟩
  obtain ⟨k, hk⟩ : ∃ k, d + 1 = k := ⟨_, rfl⟩
  have hrA : ∀ j v, A[j]? = some v → w.cell? ((⟨g, off, none⟩ : Addr).add j) = some v := fun j v hj => by
    rw [add_off]
    refine hb.cell ?_
    have hj' := (List.getElem?_eq_some_iff.1 hj).1
    rw [List.getElem?_toArray, ← hoff, List.getElem?_append_right (by omega), Nat.add_sub_cancel_left, List.append_assoc, List.getElem?_append_left hj']
    exact hj
  obtain ⟨cap, zs, w1, hr, hB1, hcap, hmax, hcz, k1⟩ := run_append_zeros (P := Try.prog) (w := w) 22 3 22 39 .i64 (.agg Try.zeroCells39) 65 72 Try.underlying22 Try.underlying3 info39 zero39 (by omega) ⟨g, off, none⟩ i c k A hA hrA (by omega) (by omega) (by omega) (by simp only [maxLen]; omega) (by omega)
  have hb1 := hb.keep k1 (by simp)
  have hv1 := hv.keep k1 (by simp)
  obtain ⟨N, hN, hso⟩ := size39
  rw [hN] at hA hD hXl hs hcz
  have hr1 : i + k = n + 1 := by omega
  rw [hr1] at hr hcap
  have hzl : N + d * N ≤ zs.length := by
    have : (n + 1) * N ≤ cap * N := Nat.mul_le_mul_right _ hcap
    rw [hd, Nat.add_mul, Nat.add_mul] at this
    omega
  obtain ⟨Z1, Z2, Z3, rfl, l1, l2⟩ := cut3 zs N (d * N) hzl
  rw [List.length_append, List.length_append, l1, l2] at hcz
  have hX1 : ∀ v ∈ x.cells, v.oneCell' = true := x.one
  have hD1 : ∀ v ∈ D, v.oneCell' = true := fun v hv => h1 v (by simp [hv])
  have C1 : ∀ cd, ∃ w', (∀ ty, (Builtin.copy_ #[22, 22] ty #[.slice (some ⟨w.heap.size, i * N, none⟩) (n + 1 - i) cd, .slice (some ⟨vb, 0, none⟩) 1 1]).run Try.prog w1 = .ok (goInt (1 : Nat)) w') ∧ (Blk w' w.heap.size (A ++ (x.cells ++ (Z2 ++ Z3))).toArray 39 ∧ Keep [w.heap.size] w1 w') := fun cd =>
    copy_blk w1 22 22 39 N w.heap.size (i * N) (n + 1 - i) cd ⟨vb, 0, none⟩ 1 1 1 (A ++ (Z1 ++ (Z2 ++ Z3))) A Z1 (Z2 ++ Z3) x.cells 39 Try.underlying22 hs hB1 (Nat.min_eq_left (by omega)) (by rw [hXl]; omega) (fun j v hj => by rw [add_off, Nat.zero_add]; exact hv1.cell (by simpa using hj)) hX1 rfl hA (by rw [l1, hXl])
  have C2 : ∀ W cd cs, Keep [w.heap.size] w1 W → Blk W w.heap.size (A ++ (x.cells ++ (Z2 ++ Z3))).toArray 39 → ∃ w', (∀ ty, (Builtin.copy_ #[22, 22] ty #[.slice (some ⟨w.heap.size, (i + 1) * N, none⟩) (n - i) cd, .slice (some ⟨g, off + i * N, none⟩) (n - i) cs]).run Try.prog W = .ok (goInt (d : Nat)) w') ∧ (Blk w' w.heap.size ((A ++ x.cells) ++ (D ++ Z3)).toArray 39 ∧ Keep [w.heap.size] W w') := fun W cd cs kW hW =>
    copy_blk W 22 22 39 N w.heap.size ((i + 1) * N) (n - i) cd ⟨g, off + i * N, none⟩ (n - i) cs d (A ++ (x.cells ++ (Z2 ++ Z3))) (A ++ x.cells) Z2 Z3 D 39 Try.underlying22 hs hW (by rw [show n - i = d by omega]; exact Nat.min_self d) hD (fun j v hj => by
      have hj' := (List.getElem?_eq_some_iff.1 hj).1
      rw [add_off]
      refine (hb1.keep kW (by simp; omega)).cell ?_
      rw [List.getElem?_toArray, Nat.add_assoc, ← hoff, List.getElem?_append_right (by omega), Nat.add_sub_cancel_left, List.append_assoc, ← hA, List.getElem?_append_right (by omega), Nat.add_sub_cancel_left, List.getElem?_append_left hj']
      exact hj) hD1 (by simp) (by rw [List.length_append, hA, hXl, Nat.add_mul, Nat.one_mul]) (by rw [l2, hD])
  have HC := Lib.hid (And.intro C1 C2)
  have HE := Lib.hid (And.intro hN (And.intro hd (And.intro hmax (And.intro hcz (And.intro hA (And.intro hD (And.intro hXl k1)))))))
  clear C1 C2 hN hmax hcz hA hD hXl hzl k1 hb hv hb1 hv1 h1 hrA hs hX1 hD1 hB1
  rw [hoff]
  have HD := Lib.hid hd
  have s1 : (n : Int) + 1 - i = k := by omega
  have i0 : (0 : Int) ≤ i := by omega
  have i1 : (i : Int) ≤ n := by omega
  have i2 : ¬ ((i : Int) = n) := by omega
  have i3 : (c : Int) < n + 1 := by omega
  have i4 : (i : Int) ≤ c := by omega
  have j1 : (i : Int) ≤ n + 1 := by omega
  have j2 : (n : Int) + 1 ≤ cap := by omega
  have j3 : (i : Int) ≤ cap := by omega
  have j4 : (i : Int) + 1 ≤ n + 1 := by omega
  have j5 : (i : Int) + 1 ≤ cap := by omega
  have j6 : ¬ cap = i := by omega
  have j7 : ¬ cap = i + 1 := by omega
  have j8 : ((i : Int) + 1).toNat = i + 1 := by omega
  have j9 : ¬ c = i := by omega
  have g1 : i ≤ n := by omega
  clear hoff hk hd hd0
  go_enter Try.func47, Try.ntmps47
  go_upto_region 10 with (at_builtin; go_must (refine wpList_appendZ rfl (.tmp 34) (.tmp 39) 22 3 rfl _ _ rfl rfl hr ?_))
  have s9 : IntKind.i64.wrap ((i : Int) + 1) = (i : Int) + 1 := IntWalk.i64_in _ (by omega)
  have s8 : (0 : Int) ≤ (i : Int) + 1 := by omega
  generalize hH : w.heap.size = H at HC hg hvl ⊢
  have HHH := Lib.hid hH
  clear hH
  clear hr
  go_upto_region 11 with (refine wpList_copyW rfl (.tmp 43) (.tmp 44) 22 22 rfl _ _ rfl rfl (HC.out.1 _) ?_; rintro w2 ⟨hB2, k2⟩)
  refine wp_region_noPanic ?_
  refine wp_region_held_drew (S := fun W => Keep [H] w1 W) (by kernel_rfl) ?_ (fun hHeld0 => ?_)
  · (try dsimp only); first | exact k2.drew | exact (k2.drew).trans k3 (by simp)
  refine wpAnyH_take (i := 0) (oi := ({ dst := some 46, op := Go.Op.move (Go.Operand.tmp 9), type := 22, pos := "slices.go:154", after := #[], guard := none } : Oper)) (v := ?_) rfl (by kernel_rfl) (by kernel_rfl) (by kernel_rfl) (fun _ _ _ h => h) (Or.inl ⟨by rfl, ?_⟩) (by assumption) ?_
  rotate_left
  · (intro w hSw; (try dsimp only at hSw); go_simp; try with_reducible rfl)
  try simp only [Act.put, List.setIfInBounds_toArray, List.set_cons_zero, List.set_cons_succ]
  refine wpAnyH_take (i := 1) (oi := ({ dst := some 47, op := Go.Op.move (Go.Operand.tmp 1), type := 3, pos := "slices.go:154", after := #[], guard := none } : Oper)) (v := ?_) rfl (by kernel_rfl) (by kernel_rfl) (by kernel_rfl) (fun _ _ _ h => h) (Or.inl ⟨by rfl, ?_⟩) (by assumption) ?_
  rotate_left
  · (intro w hSw; (try dsimp only at hSw); go_simp; try with_reducible rfl)
  try simp only [Act.put, List.setIfInBounds_toArray, List.set_cons_zero, List.set_cons_succ]
  refine wpAnyH_take (i := 2) (oi := ({ dst := some 48, op := Go.Op.move (Go.Operand.tmp 7), type := 3, pos := "slices.go:154", after := #[], guard := none } : Oper)) (v := ?_) rfl (by kernel_rfl) (by kernel_rfl) (by kernel_rfl) (fun _ _ _ h => h) (Or.inl ⟨by rfl, ?_⟩) (by assumption) ?_
  rotate_left
  · (intro w hSw; (try dsimp only at hSw); go_simp; try with_reducible rfl)
  try simp only [Act.put, List.setIfInBounds_toArray, List.set_cons_zero, List.set_cons_succ]
  refine wpAnyH_take (i := 3) (oi := ({ dst := some 49, op := Go.Op.binOp Go.BinOp.add 3 (Go.Operand.tmp 47) (Go.Operand.tmp 48) 3, type := 3, pos := "slices.go:154", after := #[{ on := 1, ground := Go.Ground.data }, { on := 2, ground := Go.Ground.data }], guard := none } : Oper)) (v := ?_) rfl (by kernel_rfl) (by kernel_rfl) (by kernel_rfl) (fun _ _ _ h => h) (Or.inl ⟨by rfl, ?_⟩) (by assumption) ?_
  rotate_left
  · (intro w hSw; (try dsimp only at hSw); go_simp; try with_reducible rfl)
  try simp only [Act.put, List.setIfInBounds_toArray, List.set_cons_zero, List.set_cons_succ]
  refine wpAnyH_take (i := 4) (oi := ({ dst := some 50, op := Go.Op.slice 22 (Go.Operand.tmp 46) (some (Go.Operand.tmp 49)) none none, type := 22, pos := "slices.go:154", after := #[{ on := 0, ground := Go.Ground.data }, { on := 3, ground := Go.Ground.data }], guard := none } : Oper)) (v := ?_) rfl (by kernel_rfl) (by kernel_rfl) (by kernel_rfl) (fun _ _ _ h => h) (Or.inl ⟨by rfl, ?_⟩) (by assumption) ?_
  rotate_left
  · (intro w hSw; (try dsimp only at hSw); go_simp; try with_reducible rfl)
  try simp only [Act.put, List.setIfInBounds_toArray, List.set_cons_zero, List.set_cons_succ]
  refine wpAnyH_take (i := 5) (oi := ({ dst := some 51, op := Go.Op.move (Go.Operand.tmp 0), type := 22, pos := "slices.go:154", after := #[], guard := none } : Oper)) (v := ?_) rfl (by kernel_rfl) (by kernel_rfl) (by kernel_rfl) (fun _ _ _ h => h) (Or.inl ⟨by rfl, ?_⟩) (by assumption) ?_
  rotate_left
  · (intro w hSw; (try dsimp only at hSw); go_simp; try with_reducible rfl)
  try simp only [Act.put, List.setIfInBounds_toArray, List.set_cons_zero, List.set_cons_succ]
  refine wpAnyH_take (i := 6) (oi := ({ dst := some 52, op := Go.Op.move (Go.Operand.tmp 1), type := 3, pos := "slices.go:154", after := #[], guard := none } : Oper)) (v := ?_) rfl (by kernel_rfl) (by kernel_rfl) (by kernel_rfl) (fun _ _ _ h => h) (Or.inl ⟨by rfl, ?_⟩) (by assumption) ?_
  rotate_left
  · (intro w hSw; (try dsimp only at hSw); go_simp; try with_reducible rfl)
  try simp only [Act.put, List.setIfInBounds_toArray, List.set_cons_zero, List.set_cons_succ]
  refine wpAnyH_take (i := 7) (oi := ({ dst := some 53, op := Go.Op.slice 22 (Go.Operand.tmp 51) (some (Go.Operand.tmp 52)) none none, type := 22, pos := "slices.go:154", after := #[{ on := 5, ground := Go.Ground.data }, { on := 6, ground := Go.Ground.data }], guard := none } : Oper)) (v := ?_) rfl (by kernel_rfl) (by kernel_rfl) (by kernel_rfl) (fun _ _ _ h => h) (Or.inl ⟨by rfl, ?_⟩) (by assumption) ?_
  rotate_left
  · (intro w hSw; (try dsimp only at hSw); go_simp; try with_reducible rfl)
  try simp only [Act.put, List.setIfInBounds_toArray, List.set_cons_zero, List.set_cons_succ]
  refine wpAnyH_ready (rs := [8]) (by kernel_rfl) (by simp) ?_
  refine (AllReadyH.cons (o := ({ dst := some 54, op := Go.Op.call { callee := Go.Callee.builtin Go.Builtin.copy, args := #[Go.Operand.tmp 50, Go.Operand.tmp 53], argTypes := #[22, 22] }, type := 3, pos := "slices.go:154", after := #[{ on := 4, ground := Go.Ground.data }, { on := 7, ground := Go.Ground.data }], guard := none } : Oper)) rfl (fun K hK => ?_) AllReadyH.nil)
  (refine step_copyW rfl (.tmp 50) (.tmp 53) 22 22 rfl _ _ rfl rfl (HC.out.2 _ _ _ (k2.drew) hB2.drew) ?_; rintro w3 ⟨hB3, k3⟩)
  refine hK.out _ _ ?_ (fun hHeld1 => ?_)
  · (try dsimp only); first | exact k2.drew | exact (k2.drew).trans k3 (by simp)
  clear hK K
  try simp only [Act.put, List.setIfInBounds_toArray, List.set_cons_zero, List.set_cons_succ]
  refine wpAnyH_done (by kernel_rfl) ?_ _
  refine NoPanic.normal ?_
  go_wp2_with fail; go_returns; exact grow_end HE.out HHH.out hcap hB3 (k2.drew.trans k3 (by simp))

set_option maxHeartbeats 1000000 in
set_option maxRecDepth 100000 in
theorem ins_end (a : Option Addr) (n c : Nat) (vs : List Value) (x : Res) (vb : Nat) (w : World) (hS : Sl w 39 65 (.slice a n c) n vs) (hn : n ≤ 1000) (hv : Blk w vb x.cells.toArray 39) :
    Calls Try.prog 47 #[.slice a n c, .int .i64 (n : Nat), .slice (some ⟨vb, 0, none⟩) 1 1] w fun e w' => ∃ a' c', e = .returned (.slice a' (n + 1) c') ∧ Sl w' 39 65 (.slice a' (n + 1) c') (n + 1) (vs ++ x.cells) ∧ Fr w (blks (.slice a n c)) (blks (.slice a' (n + 1) c')) ∧ Keep (blks (.slice a n c)) w w' := by
  have hX := x.len
  have hX1 := x.one
  have hrd : Rd w (some ⟨vb, 0, none⟩) x.cells := Rd.of_blk hv 0 (fun j v hj => by rw [Nat.zero_add]; exact hj)
  have HX := Lib.hid (And.intro hX (And.intro hX1 hrd))
  clear hX hX1 hrd
  have q : ((n : Int) == n) = true := by simp
  rcases hS.form with ⟨a', c', e, _, _, hnc, hc, hcn⟩
  obtain ⟨rfl, rfl⟩ : a = a' ∧ c = c' := by simpa using e
  clear e
  have n0 : (0 : Int) ≤ n := by omega
  cases a with
  | none =>
    obtain rfl : c = 0 := hcn rfl
    obtain rfl : n = 0 := by omega
    go_enter Try.func47, Try.ntmps47
    go_wp2_with (at_builtin; go_must (refine wpList_appendN rfl (.tmp 23) (.tmp 24) 22 rfl 39 (.agg Try.zeroCells39) 65 72 Try.underlying22 info39 zero39 (by omega) (.slice none 0 0) 0 vs rfl hS (some ⟨vb, 0, none⟩) 1 1 x.cells rfl HX.out.1 (by simp) HX.out.2.2 HX.out.2.1 (by simp only [maxLen]; omega) (by omega) ?_; intro a1 c1 w6 hs1 hk1 hf1))
    go_returns
    exact ⟨a1, c1, rfl, hs1, hf1, hk1⟩
  | some ad =>
    obtain ⟨N, hN, hso⟩ := size39
    clear hN
    have i1 : (n : Int) ≤ c := by omega
    go_enter Try.func47, Try.ntmps47
    go_wp2_with (at_builtin; go_must (refine wpList_appendN rfl (.tmp 23) (.tmp 24) 22 rfl 39 (.agg Try.zeroCells39) 65 72 Try.underlying22 info39 zero39 (by omega) (.slice (some ad) n c) n vs rfl hS (some ⟨vb, 0, none⟩) 1 1 x.cells rfl HX.out.1 (by simp) HX.out.2.2 HX.out.2.1 (by simp only [maxLen]; omega) (by omega) ?_; intro a1 c1 w6 hs1 hk1 hf1))
    all_goals (go_returns; exact ⟨a1, c1, rfl, hs1, hf1, hk1⟩)

theorem room_end {w w3 : World} {g off N n i d c : Nat} {pre A D S : List Value} {x : Res} (HE : 65 = N ∧ n = i + d ∧ c ≤ maxLen ∧ c * N ≤ i * N + (N + (d * N + S.length)) ∧ A.length = i * N ∧ D.length = d * N ∧ x.cells.length = N ∧ pre.length = off ∧ n + 1 ≤ c)
    (hB : Blk w3 g ((pre ++ A) ++ (x.cells ++ (D ++ S))).toArray 39) (k3 : Keep [g] w w3) :
    ∃ a' c', Ending.returned (.slice (some ⟨g, off, none⟩) (n + 1) c) = .returned (.slice a' (n + 1) c') ∧ Sl w3 39 65 (.slice a' (n + 1) c') (n + 1) (A ++ (x.cells ++ D)) ∧ Fr w [g] (blks (.slice a' (n + 1) c')) ∧ Keep [g] w w3 := by
  obtain ⟨hN, hd, hmax, hcz, hA, hD, hX, ho, hc⟩ := HE
  subst hN; subst ho
  refine ⟨_, _, rfl, ⟨?_, Or.inr ⟨g, c, pre, S, rfl, ?_, hc, ?_, hmax⟩⟩, by intro b hb; simp [blks, Value.ownBlock] at hb; exact Or.inl (by simp [hb]), k3⟩
  · rw [List.length_append, List.length_append, hA, hD, hX]; omega
  · exact blk_of hB (by simp)
  · rw [List.length_append, List.length_append, hA, hD, hX]; omega

set_option maxHeartbeats 1000000 in
set_option maxRecDepth 100000 in
theorem ins_room (g c n d i : Nat) (pre A D post : List Value) (x : Res) (vb : Nat) (w : World) (hb : Blk w g (pre ++ ((A ++ D) ++ post)).toArray 39) (hA : A.length = i * 65) (hD : D.length = d * 65) (h1 : ∀ v ∈ A ++ D, v.oneCell' = true)
    (hd : n = i + d) (hd0 : 0 < d) (hc : n + 1 ≤ c) (hcp : c * 65 ≤ (A ++ D).length + post.length) (hcm : c ≤ maxLen) (hn : n ≤ 1000) (hv : Blk w vb x.cells.toArray 39) (hvg : vb ≠ g) :
    Calls Try.prog 47 #[.slice (some ⟨g, pre.length, none⟩) n c, .int .i64 (i : Nat), .slice (some ⟨vb, 0, none⟩) 1 1] w fun e w' => ∃ a' c', e = .returned (.slice a' (n + 1) c') ∧ Sl w' 39 65 (.slice a' (n + 1) c') (n + 1) (A ++ (x.cells ++ D)) ∧ Fr w [g] (blks (.slice a' (n + 1) c')) ∧ Keep [g] w w' := by
  have hXl := x.len
  have hs := hs39
  have hg := hb.lt
  have hvl := hv.lt
  have hov : ∀ la ca lb cb o, (callFunc 61 #[.slice (some ⟨vb, 0, none⟩) la ca, .slice (some ⟨g, o, none⟩) lb cb]).run Try.prog w = .ok (.value (.bool false)) w := fun la ca lb cb o => by
    rw [run_callFunc_extern Try.func61 (by kernel_rfl) (by kernel_rfl) (by kernel_rfl) (e := Extern.SlicesOverlaps.overlaps #[22, 22] #[4]) (by kernel_rfl),
      Lib.run_overlaps_apart w 22 4 39 Try.underlying22 65 Try.sizeOf39 ⟨vb, 0, none⟩ ⟨g, o, none⟩ la ca lb cb hvg 39 39 x.cells.toArray.size (pre ++ ((A ++ D) ++ post)).toArray.size (shape_of_blk hv) (shape_of_blk hb) (by simp only [List.size_toArray, List.length_append, hD]; omega) hv.free hv.free]
    rfl
  obtain ⟨off, hoff⟩ : ∃ off, pre.length = off := ⟨_, rfl⟩
  obtain ⟨N, hN, hso⟩ := size39
  rw [hN] at hA hD hXl hs hcp
  have hzl : N + d * N ≤ (D ++ post).length := by
    have : (n + 1) * N ≤ c * N := Nat.mul_le_mul_right _ hc
    rw [List.length_append, hA] at hcp
    rw [hd, Nat.add_mul, Nat.add_mul] at this
    rw [List.length_append]
    omega
  obtain ⟨T, M, S, hTS, l1, l2⟩ := cut3 (D ++ post) N (d * N) hzl
  have hcz : c * N ≤ i * N + (N + (d * N + S.length)) := by
    have := congrArg List.length hTS
    rw [List.length_append, List.length_append, List.length_append, l1, l2, hD] at this
    rw [List.length_append, hA, hD] at hcp
    omega
  have hX1 : ∀ v ∈ x.cells, v.oneCell' = true := x.one
  have hD1 : ∀ v ∈ D, v.oneCell' = true := fun v hv => h1 v (by simp [hv])
  have C1 : ∀ W cd cs, Keep [] w W → ∃ w', (∀ ty, (Builtin.copy_ #[22, 22] ty #[.slice (some ⟨g, off + (i + 1) * N, none⟩) (n - i) cd, .slice (some ⟨g, off + i * N, none⟩) (n + 1 - i) cs]).run Try.prog W = .ok (goInt (d : Nat)) w') ∧ (Blk w' g ((pre ++ (A ++ T)) ++ (D ++ S)).toArray 39 ∧ Keep [g] W w') := fun W cd cs kW =>
    copy_blk W 22 22 39 N g (off + (i + 1) * N) (n - i) cd ⟨g, off + i * N, none⟩ (n + 1 - i) cs d (pre ++ ((A ++ D) ++ post)) (pre ++ (A ++ T)) M S D 39 Try.underlying22 hs (hb.keep kW (by simp)) (by rw [show n - i = d by omega]; exact Nat.min_eq_right (by omega)) hD (fun j v hj => by
      have hj' := (List.getElem?_eq_some_iff.1 hj).1
      rw [add_off]
      refine (hb.keep kW (by simp)).cell ?_
      rw [List.getElem?_toArray, Nat.add_assoc, ← hoff, List.getElem?_append_right (by omega), Nat.add_sub_cancel_left, List.append_assoc, ← hA, List.getElem?_append_right (by omega), Nat.add_sub_cancel_left, List.getElem?_append_left hj']
      exact hj) hD1 (by rw [List.append_assoc A D post, hTS]; simp) (by rw [List.length_append, List.length_append, hA, l1, hoff, Nat.add_mul, Nat.one_mul]) (by rw [l2, hD])
  have C2 : ∀ W cd, Keep [g] w W → Blk W g ((pre ++ (A ++ T)) ++ (D ++ S)).toArray 39 → ∃ w', (∀ ty, (Builtin.copy_ #[22, 22] ty #[.slice (some ⟨g, off + i * N, none⟩) (n + 1 - i) cd, .slice (some ⟨vb, 0, none⟩) 1 1]).run Try.prog W = .ok (goInt (1 : Nat)) w') ∧ (Blk w' g ((pre ++ A) ++ (x.cells ++ (D ++ S))).toArray 39 ∧ Keep [g] W w') := fun W cd kW hW =>
    copy_blk W 22 22 39 N g (off + i * N) (n + 1 - i) cd ⟨vb, 0, none⟩ 1 1 1 ((pre ++ (A ++ T)) ++ (D ++ S)) (pre ++ A) T (D ++ S) x.cells 39 Try.underlying22 hs hW (Nat.min_eq_left (by omega)) (by rw [hXl]; omega) (fun j v hj => by rw [add_off, Nat.zero_add]; exact (hv.keep kW (by simp; exact hvg)).cell (by simpa using hj)) hX1 (by simp) (by rw [List.length_append, hA, hoff]) (by rw [l1, hXl])
  have HC := Lib.hid (And.intro C1 C2)
  have HE := Lib.hid (And.intro hN (And.intro hd (And.intro hcm (And.intro hcz (And.intro hA (And.intro hD (And.intro hXl (And.intro hoff hc))))))))
  clear C1 C2 hN hcz hA hD hXl hzl hb hv h1 hs hX1 hD1 hTS l1 l2 hcp
  rw [hoff]
  simp only [maxLen] at hcm
  have i0 : (0 : Int) ≤ i := by omega
  have i1 : (i : Int) ≤ n := by omega
  have i2 : ¬ ((i : Int) = n) := by omega
  have i3 : ¬ (c : Int) < n + 1 := by omega
  have i4 : (i : Int) ≤ c := by omega
  have i5 : (n : Int) + 1 ≤ c := by omega
  have i6 : (0 : Int) ≤ (n : Int) + 1 := by omega
  have j1 : (i : Int) ≤ n + 1 := by omega
  have j4 : (i : Int) + 1 ≤ n + 1 := by omega
  have j5 : (i : Int) + 1 ≤ c := by omega
  have j6 : ¬ c = i := by omega
  have j7 : ¬ c = i + 1 := by omega
  have j8 : ((i : Int) + 1).toNat = i + 1 := by omega
  have j9 : ((n : Int) + 1).toNat = n + 1 := by omega
  have s9 : IntKind.i64.wrap ((i : Int) + 1) = (i : Int) + 1 := IntWalk.i64_in _ (by omega)
  have s8 : (0 : Int) ≤ (i : Int) + 1 := by omega
  have g1 : i ≤ n := by omega
  clear hoff hd hd0
  go_enter Try.func47, Try.ntmps47
  go_upto_region 15 with (simp only [hov])
  refine wp_region_noPanic ?_
  refine wp_region_held_drew (S := fun W => Keep [g] w W) (by kernel_rfl) ?_ (fun hHeld0 => ?_)
  · (try dsimp only); first | exact (Keep.refl _ _).drew | exact ((Keep.refl _ _).drew).trans k2 (by simp)
  refine wpAnyH_take (i := 0) (oi := ({ dst := some 69, op := Go.Op.move (Go.Operand.tmp 0), type := 22, pos := "slices.go:178", after := #[], guard := none } : Oper)) (v := ?_) rfl (by kernel_rfl) (by kernel_rfl) (by kernel_rfl) (fun _ _ _ h => h) (Or.inl ⟨by rfl, ?_⟩) (by assumption) ?_
  rotate_left
  · (intro w hSw; (try dsimp only at hSw); go_simp; try with_reducible rfl)
  try simp only [Act.put, List.setIfInBounds_toArray, List.set_cons_zero, List.set_cons_succ]
  refine wpAnyH_take (i := 1) (oi := ({ dst := some 70, op := Go.Op.move (Go.Operand.tmp 1), type := 3, pos := "slices.go:178", after := #[], guard := none } : Oper)) (v := ?_) rfl (by kernel_rfl) (by kernel_rfl) (by kernel_rfl) (fun _ _ _ h => h) (Or.inl ⟨by rfl, ?_⟩) (by assumption) ?_
  rotate_left
  · (intro w hSw; (try dsimp only at hSw); go_simp; try with_reducible rfl)
  try simp only [Act.put, List.setIfInBounds_toArray, List.set_cons_zero, List.set_cons_succ]
  refine wpAnyH_take (i := 2) (oi := ({ dst := some 71, op := Go.Op.move (Go.Operand.tmp 7), type := 3, pos := "slices.go:178", after := #[], guard := none } : Oper)) (v := ?_) rfl (by kernel_rfl) (by kernel_rfl) (by kernel_rfl) (fun _ _ _ h => h) (Or.inl ⟨by rfl, ?_⟩) (by assumption) ?_
  rotate_left
  · (intro w hSw; (try dsimp only at hSw); go_simp; try with_reducible rfl)
  try simp only [Act.put, List.setIfInBounds_toArray, List.set_cons_zero, List.set_cons_succ]
  refine wpAnyH_take (i := 3) (oi := ({ dst := some 72, op := Go.Op.binOp Go.BinOp.add 3 (Go.Operand.tmp 70) (Go.Operand.tmp 71) 3, type := 3, pos := "slices.go:178", after := #[{ on := 1, ground := Go.Ground.data }, { on := 2, ground := Go.Ground.data }], guard := none } : Oper)) (v := ?_) rfl (by kernel_rfl) (by kernel_rfl) (by kernel_rfl) (fun _ _ _ h => h) (Or.inl ⟨by rfl, ?_⟩) (by assumption) ?_
  rotate_left
  · (intro w hSw; (try dsimp only at hSw); go_simp; try with_reducible rfl)
  try simp only [Act.put, List.setIfInBounds_toArray, List.set_cons_zero, List.set_cons_succ]
  refine wpAnyH_take (i := 4) (oi := ({ dst := some 73, op := Go.Op.slice 22 (Go.Operand.tmp 69) (some (Go.Operand.tmp 72)) none none, type := 22, pos := "slices.go:178", after := #[{ on := 0, ground := Go.Ground.data }, { on := 3, ground := Go.Ground.data }], guard := none } : Oper)) (v := ?_) rfl (by kernel_rfl) (by kernel_rfl) (by kernel_rfl) (fun _ _ _ h => h) (Or.inl ⟨by rfl, ?_⟩) (by assumption) ?_
  rotate_left
  · (intro w hSw; (try dsimp only at hSw); go_simp; try with_reducible rfl)
  try simp only [Act.put, List.setIfInBounds_toArray, List.set_cons_zero, List.set_cons_succ]
  refine wpAnyH_take (i := 5) (oi := ({ dst := some 74, op := Go.Op.move (Go.Operand.tmp 0), type := 22, pos := "slices.go:178", after := #[], guard := none } : Oper)) (v := ?_) rfl (by kernel_rfl) (by kernel_rfl) (by kernel_rfl) (fun _ _ _ h => h) (Or.inl ⟨by rfl, ?_⟩) (by assumption) ?_
  rotate_left
  · (intro w hSw; (try dsimp only at hSw); go_simp; try with_reducible rfl)
  try simp only [Act.put, List.setIfInBounds_toArray, List.set_cons_zero, List.set_cons_succ]
  refine wpAnyH_take (i := 6) (oi := ({ dst := some 75, op := Go.Op.move (Go.Operand.tmp 1), type := 3, pos := "slices.go:178", after := #[], guard := none } : Oper)) (v := ?_) rfl (by kernel_rfl) (by kernel_rfl) (by kernel_rfl) (fun _ _ _ h => h) (Or.inl ⟨by rfl, ?_⟩) (by assumption) ?_
  rotate_left
  · (intro w hSw; (try dsimp only at hSw); go_simp; try with_reducible rfl)
  try simp only [Act.put, List.setIfInBounds_toArray, List.set_cons_zero, List.set_cons_succ]
  refine wpAnyH_take (i := 7) (oi := ({ dst := some 76, op := Go.Op.slice 22 (Go.Operand.tmp 74) (some (Go.Operand.tmp 75)) none none, type := 22, pos := "slices.go:178", after := #[{ on := 5, ground := Go.Ground.data }, { on := 6, ground := Go.Ground.data }], guard := none } : Oper)) (v := ?_) rfl (by kernel_rfl) (by kernel_rfl) (by kernel_rfl) (fun _ _ _ h => h) (Or.inl ⟨by rfl, ?_⟩) (by assumption) ?_
  rotate_left
  · (intro w hSw; (try dsimp only at hSw); go_simp; try with_reducible rfl)
  try simp only [Act.put, List.setIfInBounds_toArray, List.set_cons_zero, List.set_cons_succ]
  refine wpAnyH_ready (rs := [8]) (by kernel_rfl) (by simp) ?_
  refine (AllReadyH.cons (o := ({ dst := some 77, op := Go.Op.call { callee := Go.Callee.builtin Go.Builtin.copy, args := #[Go.Operand.tmp 73, Go.Operand.tmp 76], argTypes := #[22, 22] }, type := 3, pos := "slices.go:178", after := #[{ on := 4, ground := Go.Ground.data }, { on := 7, ground := Go.Ground.data }], guard := none } : Oper)) rfl (fun K hK => ?_) AllReadyH.nil)
  (refine step_copyW rfl (.tmp 73) (.tmp 76) 22 22 rfl _ _ rfl rfl (HC.out.1 _ _ _ ((Keep.refl _ _).drew)) ?_; rintro w2 ⟨hB2, k2⟩)
  refine hK.out _ _ ?_ (fun hHeld1 => ?_)
  · (try dsimp only); first | exact (Keep.refl _ _).drew | exact ((Keep.refl _ _).drew).trans k2 (by simp)
  clear hK K
  try simp only [Act.put, List.setIfInBounds_toArray, List.set_cons_zero, List.set_cons_succ]
  refine wpAnyH_done (by kernel_rfl) ?_ _
  refine NoPanic.normal ?_
  go_wp2_with (refine wpList_copyW rfl (.tmp 80) (.tmp 81) 22 22 rfl _ _ rfl rfl (HC.out.2 _ _ hHeld1 hB2) ?_; rintro w3 ⟨hB3, k3⟩); go_returns; exact room_end HE.out hB3 (hHeld1.trans k3 (by simp))

/-- slices.Insert of one result into a slice of the call's own. -/
theorem insert_any (a : Option Addr) (n c i : Nat) (l : List Res) (x : Res) (vb : Nat) (w : World) (hS : Sl w 39 65 (.slice a n c) n (cellsOf l)) (hl : l.length = n) (hi : i ≤ n) (hn : n ≤ 1000) (hv : Blk w vb x.cells.toArray 39) (hvg : vb ∉ blks (.slice a n c)) :
    Calls Try.prog 47 #[.slice a n c, .int .i64 (i : Nat), .slice (some ⟨vb, 0, none⟩) 1 1] w fun e w' => ∃ a' c', e = .returned (.slice a' (n + 1) c') ∧ Sl w' 39 65 (.slice a' (n + 1) c') (n + 1) (cellsOf (l.take i ++ ([x] ++ l.drop i))) ∧ Fr w (blks (.slice a n c)) (blks (.slice a' (n + 1) c')) ∧ Keep (blks (.slice a n c)) w w' := by
  obtain ⟨h1, h2, h3, h4⟩ := ins_len l hl hi x
  rcases Nat.lt_or_eq_of_le hi with hlt | rfl
  · rcases hS.2 with ⟨e, h⟩ | ⟨g, cap, pre, post, e, hb, hnc, hcp, hcm⟩
    · omega
    · obtain ⟨rfl, rfl⟩ : a = some ⟨g, pre.length, none⟩ ∧ c = cap := by simpa using e
      rw [h4]
      have hall := cellsOf_all l
      rw [h3] at hb hcp hall
      rcases Nat.lt_or_ge c (n + 1) with hc | hc
      · refine (ins_grow g c n (n - i) i pre _ _ post x vb w hb h1 h2 hall (by omega) (by omega) hnc hc hn hv).mono ?_
        rintro e w' ⟨a', c', rfl, hs, hf, k⟩
        exact ⟨a', c', rfl, hs, fun b hb => Or.inr (hf b hb), k.mono (by simp)⟩
      · exact ins_room g c n (n - i) i pre _ _ post x vb w hb h1 h2 hall (by omega) (by omega) hc hcp hcm hn hv (by simpa [blks, Value.ownBlock] using hvg)
  · have e : cellsOf (l.take i ++ ([x] ++ l.drop i)) = cellsOf l ++ x.cells := by
      rw [List.take_of_length_le (by omega), List.drop_eq_nil_of_le (by omega), cellsOf_append, List.append_nil, cellsOf_one]
    rw [e]
    exact ins_end a i c (cellsOf l) x vb w hS hn hv
end Go.Proofs.Ytjdkeabimcajlaa

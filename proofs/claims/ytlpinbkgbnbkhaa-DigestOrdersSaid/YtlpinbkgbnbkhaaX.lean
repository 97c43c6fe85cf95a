/- DigestNothing: the first steps. -/
import Derived.Test.YtlpinbkgbnbkhaaV
import Derived.Test.YtlpinbkgbnbkhaaJ
import Derived.Test.YtlpinbkgbnbkhaaAf
import Derived.Deep.DrawnRows
import Derived.Deep.MidRow
set_option linter.unusedVariables false
set_option linter.unusedSimpArgs false
namespace Go.Proofs.Ytlpinbkgbnbkhaa
open Go.RowKit
attribute [local go_sem ↓] Go.wp_at_zero Go.wp_at_succ

theorem writeNil_any (v : Value) (w : World) :
    Calls Try.prog 29 #[.pointer none, v] w fun e w' => e = .returned (.tuple #[]) ∧ w' = w := by
  go_enter Try.func29, Try.ntmps29
  go_wp2_with fail
  go_returns
  exact ⟨rfl, rfl⟩
theorem nilIn (w : World) : InBytes w none 0 0 [] := ⟨rfl, Or.inl rfl, Nat.le_refl _, fun _ => rfl, by omega, by omega⟩

/-- The rows of three pieces. -/
theorem rowsAt3 {w : World} {a : Option Addr} {l c : Nat} {xs : List UInt8} (h : InBytes w a l c xs) (a0 : Option Addr) (c0 : Nat) (h0 : InBytes w a0 0 c0 []) (b : Nat) (hb : b = w.heap.size) : RowsAt (w.alloc (.cells #[.slice none 0 0, .slice a l c, .slice a0 0 c0] 29)) (some ⟨b, 0, none⟩) 3 [.slice none 0 0, .slice a l c, .slice a0 0 c0] [[], xs, []] := by
  refine ⟨rfl, rfl, Rd.made w _ 29 (0, 0) _ b hb rfl, fun i hi => ?_⟩
  have : i = 0 ∨ i = 1 ∨ i = 2 := by simp at hi; omega
  rcases this with rfl | rfl | rfl
  · exact ⟨none, 0, 0, rfl, nilIn _⟩
  · exact ⟨a, l, c, rfl, h.keep ((Keep.refl [] w).alloc _) (by simp)⟩
  · exact ⟨a0, 0, c0, rfl, h0.keep ((Keep.refl [] w).alloc _) (by simp)⟩
/-- Rows of bytes under a slice, whatever the slice's cells are. -/
def RowsE (w : World) (pp : Option Addr) (n : Nat) (xss : List (List UInt8)) : Prop := ∃ vs, RowsAt w pp n vs xss
theorem RowsE.keep {w w' : World} {pp : Option Addr} {n : Nat} {xss : List (List UInt8)} (h : RowsE w pp n xss) (k : Keep [] w w') : RowsE w' pp n xss := by
  obtain ⟨vs, h⟩ := h; exact ⟨vs, h.keep k⟩
theorem rowsE3 {w : World} {a : Option Addr} {l c : Nat} {xs : List UInt8} (h : InBytes w a l c xs) (a0 : Option Addr) (c0 : Nat) (h0 : InBytes w a0 0 c0 []) (b : Nat) (hb : b = w.heap.size) : RowsE (w.alloc (.cells #[.slice none 0 0, .slice a l c, .slice a0 0 c0] 29)) (some ⟨b, 0, none⟩) 3 [[], xs, []] := ⟨_, rowsAt3 h a0 c0 h0 b hb⟩
theorem rowsE1 {w : World} {a : Option Addr} {l c : Nat} {xs : List UInt8} (h : InBytes w a l c xs) (b : Nat) (hb : b = w.heap.size) : RowsE (w.alloc (.cells #[.slice a l c] 29)) (some ⟨b, 0, none⟩) 1 [xs] := ⟨_, rowsAt1 h b hb⟩
theorem emptyIn (w : World) (a : Addr) : InBytes w (some a) 0 0 [] := ⟨rfl, Or.inl rfl, Nat.le_refl _, (fun h => by cases h), by omega, by omega⟩
theorem rangeAt_of_blk {w : World} {b : Nat} {cs : List Value} {t : TypeId} (h : Blk w b cs.toArray t) : w.rangeAt b 0 cs := fun j v hv => by
  rw [Nat.zero_add]; exact h.cell (by simpa using hv)
theorem rangeAt_keep {w w' : World} {b : Nat} {cs : List Value} (h : w.rangeAt b 0 cs) (k : Keep [] w w') : w'.rangeAt b 0 cs := fun j v hv => k.cell (h j v hv) (by simp)
theorem held2k {W w : World} {b g : Nat} {cs ds : List Value} (h : w.rangeAt b 0 cs ∧ w.rangeAt g 0 ds ∧ Keep [] W w) : Keep [] W w := h.2.2
theorem held2 {W w w' : World} {b g : Nat} {cs ds : List Value} (h : w.rangeAt b 0 cs ∧ w.rangeAt g 0 ds ∧ Keep [] W w) (k : Keep [] w w') : w'.rangeAt b 0 cs ∧ w'.rangeAt g 0 ds ∧ Keep [] W w' :=
  ⟨rangeAt_keep h.1 k, rangeAt_keep h.2.1 k, h.2.2.trans' k⟩

set_option maxHeartbeats 8000000 in
set_option maxRecDepth 100000 in
theorem digestNothing_walk (a : Option Addr) (len cap : Nat) (xs : List UInt8) (w : World) (hx : InBytes w a len cap xs) :
    Calls Try.prog 10 #[.slice a len cap] w fun e w' => e = .returned (.bool true) ∧ Keep [] w w' := by
  obtain ⟨D0, hD0⟩ : ∃ D, sha [] = D := ⟨_, rfl⟩
  obtain ⟨D, hD⟩ : ∃ D, sha xs = D := ⟨_, rfl⟩
  have l0 : D0.length = 32 := by rw [← hD0]; exact sha_length _
  have lD : D.length = 32 := by rw [← hD]; exact sha_length _
  have hc := hx.short
  have hl := hx.hle
  have r0 : ∀ W, Calls Try.prog 16 #[.slice none 0 0] W fun e w' => e = .returned (.agg (bs D0).toArray) ∧ Keep [] W w' := fun W => by
    have := refFull_any [] 0 0 none W (nilIn W) (by omega)
    rwa [hD0] at this
  have rD : ∀ W, Keep [] w W → Calls Try.prog 16 #[.slice a len cap] W fun e w' => e = .returned (.agg (bs D).toArray) ∧ Keep [] W w' := fun W hW => by
    have := refFull_any xs len cap a W (hx.keep hW (by simp)) (by omega)
    rwa [hD] at this
  have R0 := Lib.hid r0
  have RD := Lib.hid rD
  have H0 := Lib.hid hD0
  have HD := Lib.hid hD
  have L0 := Lib.hid (size32 D0 l0)
  have LD := Lib.hid (size32 D lD)
  have E0 := Lib.hid l0
  have ED := Lib.hid lD
  clear r0 rD hD0 hD l0 lD hc hl
  obtain ⟨Z, hz, hZ⟩ := zeroHash
  have HZ := Lib.hid hZ
  clear hZ
  go_enter Try.func10, Try.ntmps10
  go_upto_region 4 with (first
    | (go_at_call 29; refine (writeNil_any _ _).mono ?_; rintro e w1 ⟨rfl, hw⟩; have hw' := hw.symm; subst hw')
    | fail)
  obtain ⟨W1, hW1⟩ : ∃ W, w.alloc (.cells Z 53) = W := ⟨_, rfl⟩
  obtain ⟨P0, hP0⟩ : ∃ P, w.heap.size = P := ⟨_, rfl⟩
  have Bz : Blk W1 P0 Z 53 := by rw [← hW1, ← hP0]; exact Blk.new w Z 53
  have k1 : Keep [] w W1 := by rw [← hW1]; exact (Keep.refl [] w).alloc _
  have p0 : w.heap.size ≤ P0 := by omega
  rw [hW1, hP0]
  have h0 := HZ.out W1 P0 Bz
  clear hW1 hP0 Bz
  go_upto_region 5 with (first
    | (go_at_call 16; refine (R0.out _).mono ?_; rintro e w2 ⟨rfl, hk2⟩)
    | (refine wpList_store_last rfl 26 (.tmp 5) (.tmp 11) rfl _ _ (bs D0).toArray rfl rfl rfl (by rw [L0.out]; rfl) (by rw [L0.out]; rfl) (bs_all D0) ?_)
    | fail)
  obtain ⟨W2, hW2⟩ : ∃ W, w2.alloc (.cells (bs D0).toArray 26) = W := ⟨_, rfl⟩
  obtain ⟨P1, hP1⟩ : ∃ P, w2.heap.size = P := ⟨_, rfl⟩
  have k12 : Keep [] W1 W2 := by rw [← hW2]; exact hk2.alloc _
  have B1 : Blk W2 P1 (bs D0).toArray 26 := by rw [← hW2, ← hP1]; exact Blk.new w2 _ 26
  have h0' := h0.keep k12 (by simp)
  have k2 := k1.trans' k12
  have p1 : w.heap.size ≤ P1 := by have := k1.size; have := hk2.size; omega
  rw [hW2, hP1]
  have hcD := RD.out W2 k2
  clear hW2 hP1 hk2 k12 h0 k1
  go_upto_region 6 with (first
    | (go_at_call 16; refine hcD.mono ?_; rintro e w3 ⟨rfl, hk3⟩)
    | (refine wpList_store_last rfl 26 (.tmp 6) (.tmp 13) rfl _ _ (bs D).toArray rfl rfl rfl (by rw [LD.out]; rfl) (by rw [LD.out]; rfl) (bs_all D) ?_)
    | fail)
  obtain ⟨W3, hW3⟩ : ∃ W, w3.alloc (.cells (bs D).toArray 26) = W := ⟨_, rfl⟩
  obtain ⟨P2, hP2⟩ : ∃ P, w3.heap.size = P := ⟨_, rfl⟩
  have k23 : Keep [] W2 W3 := by rw [← hW3]; exact hk3.alloc _
  have B2 : Blk W3 P2 (bs D).toArray 26 := by rw [← hW3, ← hP2]; exact Blk.new w3 _ 26
  have B1' := B1.keep k23 (by simp)
  have h0'' := h0'.keep k23 (by simp)
  have k3 := k2.trans' k23
  have p2 : w.heap.size ≤ P2 := by have := k2.size; have := hk3.size; omega
  rw [hW3, hP2]
  clear hW3 hP2 hk3 k23 h0' k2 B1 hcD
  go_upto_region 7 with fail
  obtain ⟨W4, hW4⟩ : ∃ W, W3.alloc (.cells Z 53) = W := ⟨_, rfl⟩
  obtain ⟨P3, hP3⟩ : ∃ P, W3.heap.size = P := ⟨_, rfl⟩
  have Bz : Blk W4 P3 Z 53 := by rw [← hW4, ← hP3]; exact Blk.new W3 Z 53
  have k34 : Keep [] W3 W4 := by rw [← hW4]; exact (Keep.refl [] W3).alloc _
  have p3 : w.heap.size ≤ P3 := by have := k3.size; omega
  have h3 := HZ.out W4 P3 Bz
  have q02 : P0 ≠ P3 := by obtain ⟨_, _, _, _, _, hb, _⟩ := h0''; have := hb.lt; omega
  have q12 : P1 ≠ P3 := by have := B1'.lt; omega
  have q22 : P2 ≠ P3 := by have := B2.lt; omega
  have B1a := B1'.keep k34 (by simp)
  have B2a := B2.keep k34 (by simp)
  have h0a := h0''.keep k34 (by simp)
  have k4 := k3.trans' k34
  rw [hW4, hP3]
  clear hW4 hP3 Bz k34 B1' B2 h0'' k3
  have c1 := write_any P3 [] [] 0 0 none W4 h3 rfl (by omega) (by omega) (Or.inl rfl) (fun h => absurd rfl h)
  rw [List.append_nil] at c1
  go_upto_region 8 with (first
    | (go_at_call 29; refine c1.mono ?_; rintro e w5 ⟨rfl, h5, hk5⟩)
    | fail)
  have k5 := k4.trans hk5 (by simpa using p3)
  have hx5 := hx.keep k5 (by simp)
  have c2 := write_any P3 [] xs len cap a w5 h5 hx5.hlen hx5.hle hx5.reach hx5.rd (fun h => by have := hx.blk h; omega)
  rw [List.nil_append] at c2
  clear c1
  go_upto_region 9 with (first
    | (go_at_call 29; refine c2.mono ?_; rintro e w6 ⟨rfl, h6, hk6⟩)
    | fail)
  have k6 := k5.trans hk6 (by simpa using p3)
  have c3 := write_any P3 xs [] 0 0 none w6 h6 rfl (by omega) (by omega) (Or.inl rfl) (fun h => absurd rfl h)
  rw [List.append_nil] at c3
  clear c2
  go_upto_region 10 with (first
    | (go_at_call 29; refine c3.mono ?_; rintro e w7 ⟨rfl, h7, hk7⟩)
    | fail)
  have k7 := k6.trans hk7 (by simpa using p3)
  have B1c := ((B1a.keep hk5 (by simpa using q12)).keep hk6 (by simpa using q12)).keep hk7 (by simpa using q12)
  have B2c := ((B2a.keep hk5 (by simpa using q22)).keep hk6 (by simpa using q22)).keep hk7 (by simpa using q22)
  have h0c := ((h0a.keep hk5 (by simpa using q02)).keep hk6 (by simpa using q02)).keep hk7 (by simpa using q02)
  have hx7 := hx.keep k7 (by simp)
  clear c3 hk5 hk6 hk7 B1a B2a h0a k4 k5 k6 h3 h5 h6 hx5
  have S31n := Lib.hid (fun (W : World) => sum_any none [] W (Or.inl ⟨rfl, rfl⟩))
  have S31z := Lib.hid (fun (W : World) (k : Keep [] w7 W) => sum_any (some ⟨P0, 0, none⟩) [] W (Or.inr ⟨P0, rfl, h0c.keep k (by simp)⟩))
  have S31h := Lib.hid (fun (W : World) (k : Keep [] w7 W) => sum_any (some ⟨P3, 0, none⟩) xs W (Or.inr ⟨P3, rfl, h7.keep k (by simp)⟩))
  rw [H0.out] at S31n S31z
  rw [HD.out] at S31h
  have F15n := Lib.hid (fun (W : World) => full_any none 0 0 [] [] W ⟨rfl, rfl, Or.inl rfl, fun i hi => by simp at hi⟩ (by omega))
  rw [show ([] : List (List UInt8)).flatten = [] from rfl, H0.out] at F15n
  have F15 := Lib.hid (fun (W : World) (pp : Option Addr) (h : RowsE W pp 3 [[], xs, []]) => full_any pp 3 3 h.choose [[], xs, []] W h.choose_spec (by omega))
  rw [show [[], xs, []].flatten = xs by simp, HD.out] at F15
  obtain ⟨I, hI⟩ : ∃ I, shaId 32 xs = I := ⟨_, rfl⟩
  have Il : I.length = 32 := by rw [← hI]; exact shaId_length _ _
  have F21 := Lib.hid (fun (W : World) (pp : Option Addr) (h : RowsE W pp 3 [[], xs, []]) => of_any 32 pp 3 3 h.choose [[], xs, []] W h.choose_spec (by omega))
  rw [show [[], xs, []].flatten = xs by simp, hI] at F21
  have F21s := Lib.hid (fun (W : World) (pp : Option Addr) (h : RowsE W pp 1 [xs]) => of_any 32 pp 1 1 h.choose [xs] W h.choose_spec (by omega))
  rw [show [xs].flatten = xs by simp, hI] at F21s
  have hS : w7.rangeAt P1 0 (bs D0) ∧ w7.rangeAt P2 0 (bs D) ∧ Keep [] w7 w7 := ⟨rangeAt_of_blk B1c, rangeAt_of_blk B2c, Keep.refl _ _⟩
  have q0 : ∀ W, (Op.equalIn 10000 26 (.agg (bs D0).toArray) (.agg (bs D0).toArray)).run Try.prog W = .ok true W := fun W => same26 _ E0.out W
  have q1 : ∀ W, (Op.equalIn 10000 26 (.agg (bs D).toArray) (.agg (bs D).toArray)).run Try.prog W = .ok true W := fun W => same26 _ ED.out W
  have q2 : ∀ W, (Op.equalIn 10000 33 (.agg (bs I).toArray) (.agg (bs I).toArray)).run Try.prog W = .ok true W := fun W => same33 _ Il W
  have hu := Try.underlying26
  have hi0 : (Try.prog.info? 26).map (·.size) = some (bs D0).length := by rw [bs_length, E0.out]; rfl
  have hi1 : (Try.prog.info? 26).map (·.size) = some (bs D).length := by rw [bs_length, ED.out]; rfl
  have HI := Lib.hid hI
  clear hI Il B1c B2c h0c h7 R0 RD
  refine wp_region_noPanic ?_
  refine wp_region_held_drew (S := fun w' => w'.rangeAt P1 0 (bs D0) ∧ w'.rangeAt P2 0 (bs D) ∧ Keep [] w7 w') (by kernel_rfl) ?_ (fun hHeld0 => ?_)
  · (try dsimp only); first | exact held2 hS ((Keep.refl [] _).drew) | exact held2 (by assumption) hk | exact held2 (by assumption) ((Keep.refl [] _).alloc _)
  refine wpAnyH_ready (rs := [0]) (by kernel_rfl) (by simp) ?_
  refine (AllReadyH.cons (o := ({ dst := some 18, op := Go.Op.call { callee := Go.Callee.value (Go.Operand.func 13), args := #[], argTypes := #[] }, type := 4, pos := "hash.go:97", after := #[], guard := none } : Oper)) rfl (fun K hK => ?_) AllReadyH.nil)
  go_simp
  (refine (known_any _).mono ?_; rintro e w' ⟨rfl, hk⟩)
  go_wp2_with fail
  refine hK.out _ _ ?_ (fun hHeld1 => ?_)
  · (try dsimp only); first | exact held2 hS ((Keep.refl [] _).drew) | exact held2 (by assumption) hk | exact held2 (by assumption) ((Keep.refl [] _).alloc _)
  clear hK K
  try simp only [Act.put, List.setIfInBounds_toArray, List.set_cons_zero, List.set_cons_succ]
  refine wpAnyH_take (i := 1) (oi := ({ dst := some 19, op := Go.Op.move (Go.Operand.tmp 18), type := 4, pos := "hash.go:97", after := #[{ on := 0, ground := Go.Ground.data }, { on := 0, ground := Go.Ground.chain }], guard := none } : Oper)) (v := ?_) rfl (by kernel_rfl) (by kernel_rfl) (by kernel_rfl) (fun _ _ _ h => h) (Or.inl ⟨by rfl, ?_⟩) (by assumption) ?_
  rotate_left
  · (intro w hSw; (try dsimp only at hSw); go_simp; try with_reducible rfl)
  try simp only [Act.put, List.setIfInBounds_toArray, List.set_cons_zero, List.set_cons_succ]
  refine wpAnyH_take (i := 2) (oi := ({ dst := some 20, op := Go.Op.move (Go.Operand.tmp 3), type := 65, pos := "hash.go:97", after := #[{ on := 1, ground := Go.Ground.guard }], guard := some (1, true) } : Oper)) (v := ?_) rfl (by kernel_rfl) (by kernel_rfl) (by kernel_rfl) (fun _ _ _ h => h) (Or.inl ⟨by rfl, ?_⟩) (by assumption) ?_
  rotate_left
  · (intro w hSw; (try dsimp only at hSw); go_simp; try with_reducible rfl)
  try simp only [Act.put, List.setIfInBounds_toArray, List.set_cons_zero, List.set_cons_succ]
  refine wpAnyH_take (i := 4) (oi := ({ dst := some 22, op := Go.Op.load 26 (Go.Operand.tmp 5), type := 26, pos := "hash.go:97", after := #[{ on := 1, ground := Go.Ground.guard }], guard := some (1, true) } : Oper)) (v := .agg (List.toArray (bs D0))) rfl (by kernel_rfl) (by kernel_rfl) (by kernel_rfl) (fun _ _ _ h => h) (yieldsIf_load_mid (by rfl) _ _ rfl _ _ rfl (bs D0) _ (fun w hSw => hSw.1) hu rfl hi0) (by assumption) ?_
  try simp only [Act.put, List.setIfInBounds_toArray, List.set_cons_zero, List.set_cons_succ]
  refine wpAnyH_ready (rs := [3]) (by kernel_rfl) (by simp) ?_
  refine (AllReadyH.cons (o := ({ dst := some 21, op := Go.Op.call { callee := Go.Callee.value (Go.Operand.func 31), args := #[Go.Operand.tmp 20], argTypes := #[65] }, type := 26, pos := "hash.go:97", after := #[{ on := 2, ground := Go.Ground.data }, { on := 1, ground := Go.Ground.chain }, { on := 1, ground := Go.Ground.guard }], guard := some (1, true) } : Oper)) rfl (fun K hK => ?_) AllReadyH.nil)
  go_simp
  (refine (S31n.out _).mono ?_; rintro e w' ⟨rfl, hk⟩)
  go_wp2_with fail
  refine hK.out _ _ ?_ (fun hHeld2 => ?_)
  · (try dsimp only); first | exact held2 hS ((Keep.refl [] _).drew) | exact held2 (by assumption) hk | exact held2 (by assumption) ((Keep.refl [] _).alloc _)
  clear hK K
  try simp only [Act.put, List.setIfInBounds_toArray, List.set_cons_zero, List.set_cons_succ]
  refine wpAnyH_take (i := 5) (oi := ({ dst := some 23, op := Go.Op.binOp Go.BinOp.eql 26 (Go.Operand.tmp 21) (Go.Operand.tmp 22) 26, type := 4, pos := "hash.go:97", after := #[{ on := 3, ground := Go.Ground.data }, { on := 4, ground := Go.Ground.data }, { on := 1, ground := Go.Ground.guard }], guard := some (1, true) } : Oper)) (v := ?_) rfl (by kernel_rfl) (by kernel_rfl) (by kernel_rfl) (fun _ _ _ h => h) (Or.inl ⟨by rfl, ?_⟩) (by assumption) ?_
  rotate_left
  · (intro w hSw; (try dsimp only at hSw); go_simp; try with_reducible rfl)
  try simp only [Act.put, List.setIfInBounds_toArray, List.set_cons_zero, List.set_cons_succ]
  refine wpAnyH_take (i := 6) (oi := ({ dst := some 24, op := Go.Op.pick (Go.Operand.tmp 19) (Go.Operand.tmp 23) (Go.Operand.const (Go.Value.bool false)), type := 4, pos := "hash.go:97", after := #[{ on := 1, ground := Go.Ground.data }, { on := 5, ground := Go.Ground.data }], guard := none } : Oper)) (v := ?_) rfl (by kernel_rfl) (by kernel_rfl) (by kernel_rfl) (fun _ _ _ h => h) (Or.inl ⟨by rfl, ?_⟩) (by assumption) ?_
  rotate_left
  · (intro w hSw; (try dsimp only at hSw); go_simp; try with_reducible rfl)
  try simp only [Act.put, List.setIfInBounds_toArray, List.set_cons_zero, List.set_cons_succ]
  refine wpAnyH_take (i := 7) (oi := ({ dst := some 25, op := Go.Op.move (Go.Operand.tmp 24), type := 4, pos := "hash.go:97", after := #[{ on := 6, ground := Go.Ground.data }, { on := 3, ground := Go.Ground.chain }], guard := none } : Oper)) (v := ?_) rfl (by kernel_rfl) (by kernel_rfl) (by kernel_rfl) (fun _ _ _ h => h) (Or.inl ⟨by rfl, ?_⟩) (by assumption) ?_
  rotate_left
  · (intro w hSw; (try dsimp only at hSw); go_simp; try with_reducible rfl)
  try simp only [Act.put, List.setIfInBounds_toArray, List.set_cons_zero, List.set_cons_succ]
  refine wpAnyH_take (i := 9) (oi := ({ dst := some 27, op := Go.Op.load 26 (Go.Operand.tmp 5), type := 26, pos := "hash.go:97", after := #[{ on := 7, ground := Go.Ground.guard }], guard := some (7, true) } : Oper)) (v := .agg (List.toArray (bs D0))) rfl (by kernel_rfl) (by kernel_rfl) (by kernel_rfl) (fun _ _ _ h => h) (yieldsIf_load_mid (by rfl) _ _ rfl _ _ rfl (bs D0) _ (fun w hSw => hSw.1) hu rfl hi0) (by assumption) ?_
  try simp only [Act.put, List.setIfInBounds_toArray, List.set_cons_zero, List.set_cons_succ]
  refine wpAnyH_ready (rs := [8]) (by kernel_rfl) (by simp) ?_
  refine (AllReadyH.cons (o := ({ dst := some 26, op := Go.Op.call { callee := Go.Callee.value (Go.Operand.func 31), args := #[Go.Operand.tmp 4], argTypes := #[53] }, type := 26, pos := "hash.go:97", after := #[{ on := 7, ground := Go.Ground.chain }, { on := 7, ground := Go.Ground.guard }], guard := some (7, true) } : Oper)) rfl (fun K hK => ?_) AllReadyH.nil)
  go_simp
  (refine (S31z.out _ ?_).mono ?_; (repeat (first | assumption | exact Keep.refl _ _ | exact (Keep.refl [] _).drew | refine Keep.alloc ?_ _ | refine Keep.trans' ?_ (by assumption))); rintro e w' ⟨rfl, hk⟩)
  go_wp2_with fail
  refine hK.out _ _ ?_ (fun hHeld3 => ?_)
  · (try dsimp only); first | exact held2 hS ((Keep.refl [] _).drew) | exact held2 (by assumption) hk | exact held2 (by assumption) ((Keep.refl [] _).alloc _)
  clear hK K
  try simp only [Act.put, List.setIfInBounds_toArray, List.set_cons_zero, List.set_cons_succ]
  refine wpAnyH_take (i := 10) (oi := ({ dst := some 28, op := Go.Op.binOp Go.BinOp.eql 26 (Go.Operand.tmp 26) (Go.Operand.tmp 27) 26, type := 4, pos := "hash.go:97", after := #[{ on := 8, ground := Go.Ground.data }, { on := 9, ground := Go.Ground.data }, { on := 7, ground := Go.Ground.guard }], guard := some (7, true) } : Oper)) (v := ?_) rfl (by kernel_rfl) (by kernel_rfl) (by kernel_rfl) (fun _ _ _ h => h) (Or.inl ⟨by rfl, ?_⟩) (by assumption) ?_
  rotate_left
  · (intro w hSw; (try dsimp only at hSw); go_simp; try with_reducible rfl)
  try simp only [Act.put, List.setIfInBounds_toArray, List.set_cons_zero, List.set_cons_succ]
  refine wpAnyH_take (i := 11) (oi := ({ dst := some 29, op := Go.Op.pick (Go.Operand.tmp 25) (Go.Operand.tmp 28) (Go.Operand.const (Go.Value.bool false)), type := 4, pos := "hash.go:97", after := #[{ on := 7, ground := Go.Ground.data }, { on := 10, ground := Go.Ground.data }], guard := none } : Oper)) (v := ?_) rfl (by kernel_rfl) (by kernel_rfl) (by kernel_rfl) (fun _ _ _ h => h) (Or.inl ⟨by rfl, ?_⟩) (by assumption) ?_
  rotate_left
  · (intro w hSw; (try dsimp only at hSw); go_simp; try with_reducible rfl)
  try simp only [Act.put, List.setIfInBounds_toArray, List.set_cons_zero, List.set_cons_succ]
  refine wpAnyH_take (i := 12) (oi := ({ dst := some 30, op := Go.Op.move (Go.Operand.tmp 29), type := 4, pos := "hash.go:97", after := #[{ on := 11, ground := Go.Ground.data }, { on := 8, ground := Go.Ground.chain }], guard := none } : Oper)) (v := ?_) rfl (by kernel_rfl) (by kernel_rfl) (by kernel_rfl) (fun _ _ _ h => h) (Or.inl ⟨by rfl, ?_⟩) (by assumption) ?_
  rotate_left
  · (intro w hSw; (try dsimp only at hSw); go_simp; try with_reducible rfl)
  try simp only [Act.put, List.setIfInBounds_toArray, List.set_cons_zero, List.set_cons_succ]
  refine wpAnyH_take (i := 14) (oi := ({ dst := some 32, op := Go.Op.load 26 (Go.Operand.tmp 5), type := 26, pos := "hash.go:97", after := #[{ on := 12, ground := Go.Ground.guard }], guard := some (12, true) } : Oper)) (v := .agg (List.toArray (bs D0))) rfl (by kernel_rfl) (by kernel_rfl) (by kernel_rfl) (fun _ _ _ h => h) (yieldsIf_load_mid (by rfl) _ _ rfl _ _ rfl (bs D0) _ (fun w hSw => hSw.1) hu rfl hi0) (by assumption) ?_
  try simp only [Act.put, List.setIfInBounds_toArray, List.set_cons_zero, List.set_cons_succ]
  refine wpAnyH_ready (rs := [13]) (by kernel_rfl) (by simp) ?_
  refine (AllReadyH.cons (o := ({ dst := some 31, op := Go.Op.call { callee := Go.Callee.value (Go.Operand.func 15), args := #[Go.Operand.const (Go.Value.slice none 0 0)], argTypes := #[22] }, type := 26, pos := "hash.go:97", after := #[{ on := 12, ground := Go.Ground.chain }, { on := 12, ground := Go.Ground.guard }], guard := some (12, true) } : Oper)) rfl (fun K hK => ?_) AllReadyH.nil)
  go_simp
  (refine (F15n.out _).mono ?_; rintro e w' ⟨rfl, hk⟩)
  go_wp2_with fail
  refine hK.out _ _ ?_ (fun hHeld4 => ?_)
  · (try dsimp only); first | exact held2 hS ((Keep.refl [] _).drew) | exact held2 (by assumption) hk | exact held2 (by assumption) ((Keep.refl [] _).alloc _)
  clear hK K
  try simp only [Act.put, List.setIfInBounds_toArray, List.set_cons_zero, List.set_cons_succ]
  refine wpAnyH_take (i := 15) (oi := ({ dst := some 33, op := Go.Op.binOp Go.BinOp.eql 26 (Go.Operand.tmp 31) (Go.Operand.tmp 32) 26, type := 4, pos := "hash.go:97", after := #[{ on := 13, ground := Go.Ground.data }, { on := 14, ground := Go.Ground.data }, { on := 12, ground := Go.Ground.guard }], guard := some (12, true) } : Oper)) (v := ?_) rfl (by kernel_rfl) (by kernel_rfl) (by kernel_rfl) (fun _ _ _ h => h) (Or.inl ⟨by rfl, ?_⟩) (by assumption) ?_
  rotate_left
  · (intro w hSw; (try dsimp only at hSw); go_simp; try with_reducible rfl)
  try simp only [Act.put, List.setIfInBounds_toArray, List.set_cons_zero, List.set_cons_succ]
  refine wpAnyH_take (i := 16) (oi := ({ dst := some 34, op := Go.Op.pick (Go.Operand.tmp 30) (Go.Operand.tmp 33) (Go.Operand.const (Go.Value.bool false)), type := 4, pos := "hash.go:97", after := #[{ on := 12, ground := Go.Ground.data }, { on := 15, ground := Go.Ground.data }], guard := none } : Oper)) (v := ?_) rfl (by kernel_rfl) (by kernel_rfl) (by kernel_rfl) (fun _ _ _ h => h) (Or.inl ⟨by rfl, ?_⟩) (by assumption) ?_
  rotate_left
  · (intro w hSw; (try dsimp only at hSw); go_simp; try with_reducible rfl)
  try simp only [Act.put, List.setIfInBounds_toArray, List.set_cons_zero, List.set_cons_succ]
  refine wpAnyH_take (i := 17) (oi := ({ dst := some 35, op := Go.Op.move (Go.Operand.tmp 34), type := 4, pos := "hash.go:97", after := #[{ on := 16, ground := Go.Ground.data }, { on := 13, ground := Go.Ground.chain }], guard := none } : Oper)) (v := ?_) rfl (by kernel_rfl) (by kernel_rfl) (by kernel_rfl) (fun _ _ _ h => h) (Or.inl ⟨by rfl, ?_⟩) (by assumption) ?_
  rotate_left
  · (intro w hSw; (try dsimp only at hSw); go_simp; try with_reducible rfl)
  try simp only [Act.put, List.setIfInBounds_toArray, List.set_cons_zero, List.set_cons_succ]
  refine wpAnyH_take (i := 18) (oi := ({ dst := some 36, op := Go.Op.move (Go.Operand.tmp 0), type := 29, pos := "hash.go:97", after := #[{ on := 17, ground := Go.Ground.guard }], guard := some (17, true) } : Oper)) (v := ?_) rfl (by kernel_rfl) (by kernel_rfl) (by kernel_rfl) (fun _ _ _ h => h) (Or.inl ⟨by rfl, ?_⟩) (by assumption) ?_
  rotate_left
  · (intro w hSw; (try dsimp only at hSw); go_simp; try with_reducible rfl)
  try simp only [Act.put, List.setIfInBounds_toArray, List.set_cons_zero, List.set_cons_succ]
  refine wpAnyH_take (i := 21) (oi := ({ dst := some 39, op := Go.Op.load 26 (Go.Operand.tmp 6), type := 26, pos := "hash.go:97", after := #[{ on := 17, ground := Go.Ground.guard }], guard := some (17, true) } : Oper)) (v := .agg (List.toArray (bs D))) rfl (by kernel_rfl) (by kernel_rfl) (by kernel_rfl) (fun _ _ _ h => h) (yieldsIf_load_mid (by rfl) _ _ rfl _ _ rfl (bs D) _ (fun w hSw => hSw.2.1) hu rfl hi1) (by assumption) ?_
  try simp only [Act.put, List.setIfInBounds_toArray, List.set_cons_zero, List.set_cons_succ]
  refine wpAnyH_ready (rs := [19]) (by kernel_rfl) (by simp) ?_
  refine (AllReadyH.cons (o := ({ dst := some 37, op := Go.Op.buildSlice 22 3 #[(0, Go.Operand.const (Go.Value.slice none 0 0)), (1, Go.Operand.tmp 36), (2, Go.Operand.const (Go.Value.slice none 0 0))], type := 22, pos := "hash.go:97", after := #[{ on := 18, ground := Go.Ground.data }, { on := 17, ground := Go.Ground.guard }], guard := some (17, true) } : Oper)) rfl (fun K hK => ?_) AllReadyH.nil)
  go_simp
  refine hK.out _ _ ?_ (fun hHeld5 => ?_)
  · (try dsimp only); first | exact held2 hS ((Keep.refl [] _).drew) | exact held2 (by assumption) hk | exact held2 (by assumption) ((Keep.refl [] _).alloc _)
  clear hK K
  try simp only [Act.put, List.setIfInBounds_toArray, List.set_cons_zero, List.set_cons_succ]
  refine wpAnyH_ready (rs := [20]) (by kernel_rfl) (by simp) ?_
  refine (AllReadyH.cons (o := ({ dst := some 38, op := Go.Op.call { callee := Go.Callee.value (Go.Operand.func 15), args := #[Go.Operand.tmp 37], argTypes := #[22] }, type := 26, pos := "hash.go:97", after := #[{ on := 19, ground := Go.Ground.data }, { on := 17, ground := Go.Ground.chain }, { on := 17, ground := Go.Ground.guard }], guard := some (17, true) } : Oper)) rfl (fun K hK => ?_) AllReadyH.nil)
  go_simp
  (refine (F15.out _ _ ?_).mono ?_; (repeat (first | (refine rowsE3 (hx7.keep (S := []) ?_ (by simp)) _ _ (by first | exact nilIn _ | exact emptyIn _ _) _ (by simp); (repeat (first | assumption | exact Keep.refl _ _ | exact (Keep.refl [] _).drew | refine Keep.alloc ?_ _ | refine Keep.trans' ?_ (by assumption)))) | (refine RowsE.keep ?_ ((Keep.refl [] _).alloc _)) | (refine RowsE.keep ?_ (by assumption)))); rintro e w' ⟨rfl, hk⟩)
  go_wp2_with fail
  refine hK.out _ _ ?_ (fun hHeld6 => ?_)
  · (try dsimp only); first | exact held2 hS ((Keep.refl [] _).drew) | exact held2 (by assumption) hk | exact held2 (by assumption) ((Keep.refl [] _).alloc _)
  clear hK K
  try simp only [Act.put, List.setIfInBounds_toArray, List.set_cons_zero, List.set_cons_succ]
  refine wpAnyH_take (i := 22) (oi := ({ dst := some 40, op := Go.Op.binOp Go.BinOp.eql 26 (Go.Operand.tmp 38) (Go.Operand.tmp 39) 26, type := 4, pos := "hash.go:97", after := #[{ on := 20, ground := Go.Ground.data }, { on := 21, ground := Go.Ground.data }, { on := 17, ground := Go.Ground.guard }], guard := some (17, true) } : Oper)) (v := ?_) rfl (by kernel_rfl) (by kernel_rfl) (by kernel_rfl) (fun _ _ _ h => h) (Or.inl ⟨by rfl, ?_⟩) (by assumption) ?_
  rotate_left
  · (intro w hSw; (try dsimp only at hSw); go_simp; try with_reducible rfl)
  try simp only [Act.put, List.setIfInBounds_toArray, List.set_cons_zero, List.set_cons_succ]
  refine wpAnyH_take (i := 23) (oi := ({ dst := some 41, op := Go.Op.pick (Go.Operand.tmp 35) (Go.Operand.tmp 40) (Go.Operand.const (Go.Value.bool false)), type := 4, pos := "hash.go:97", after := #[{ on := 17, ground := Go.Ground.data }, { on := 22, ground := Go.Ground.data }], guard := none } : Oper)) (v := ?_) rfl (by kernel_rfl) (by kernel_rfl) (by kernel_rfl) (fun _ _ _ h => h) (Or.inl ⟨by rfl, ?_⟩) (by assumption) ?_
  rotate_left
  · (intro w hSw; (try dsimp only at hSw); go_simp; try with_reducible rfl)
  try simp only [Act.put, List.setIfInBounds_toArray, List.set_cons_zero, List.set_cons_succ]
  refine wpAnyH_take (i := 24) (oi := ({ dst := some 42, op := Go.Op.move (Go.Operand.tmp 41), type := 4, pos := "hash.go:97", after := #[{ on := 23, ground := Go.Ground.data }, { on := 20, ground := Go.Ground.chain }], guard := none } : Oper)) (v := ?_) rfl (by kernel_rfl) (by kernel_rfl) (by kernel_rfl) (fun _ _ _ h => h) (Or.inl ⟨by rfl, ?_⟩) (by assumption) ?_
  rotate_left
  · (intro w hSw; (try dsimp only at hSw); go_simp; try with_reducible rfl)
  try simp only [Act.put, List.setIfInBounds_toArray, List.set_cons_zero, List.set_cons_succ]
  refine wpAnyH_take (i := 25) (oi := ({ dst := some 43, op := Go.Op.move (Go.Operand.tmp 0), type := 29, pos := "hash.go:97", after := #[{ on := 24, ground := Go.Ground.guard }], guard := some (24, true) } : Oper)) (v := ?_) rfl (by kernel_rfl) (by kernel_rfl) (by kernel_rfl) (fun _ _ _ h => h) (Or.inl ⟨by rfl, ?_⟩) (by assumption) ?_
  rotate_left
  · (intro w hSw; (try dsimp only at hSw); go_simp; try with_reducible rfl)
  try simp only [Act.put, List.setIfInBounds_toArray, List.set_cons_zero, List.set_cons_succ]
  refine wpAnyH_take (i := 29) (oi := ({ dst := some 47, op := Go.Op.move (Go.Operand.tmp 0), type := 29, pos := "hash.go:97", after := #[{ on := 24, ground := Go.Ground.guard }], guard := some (24, true) } : Oper)) (v := ?_) rfl (by kernel_rfl) (by kernel_rfl) (by kernel_rfl) (fun _ _ _ h => h) (Or.inl ⟨by rfl, ?_⟩) (by assumption) ?_
  rotate_left
  · (intro w hSw; (try dsimp only at hSw); go_simp; try with_reducible rfl)
  try simp only [Act.put, List.setIfInBounds_toArray, List.set_cons_zero, List.set_cons_succ]
  refine wpAnyH_ready (rs := [26, 30]) (by kernel_rfl) (by simp) ?_
  refine (AllReadyH.cons (o := ({ dst := some 44, op := Go.Op.buildSlice 29 0 #[], type := 29, pos := "hash.go:97", after := #[{ on := 24, ground := Go.Ground.guard }], guard := some (24, true) } : Oper)) rfl (fun K hK => ?_) (AllReadyH.cons (o := ({ dst := some 48, op := Go.Op.buildSlice 22 1 #[(0, Go.Operand.tmp 47)], type := 22, pos := "hash.go:97", after := #[{ on := 29, ground := Go.Ground.data }, { on := 24, ground := Go.Ground.guard }], guard := some (24, true) } : Oper)) rfl (fun K hK => ?_) AllReadyH.nil))
  · go_simp
    refine hK.out _ _ ?_ (fun hHeld7 => ?_)
    · (try dsimp only); first | exact held2 hS ((Keep.refl [] _).drew) | exact held2 (by assumption) hk | exact held2 (by assumption) ((Keep.refl [] _).alloc _)
    clear hK K
    try simp only [Act.put, List.setIfInBounds_toArray, List.set_cons_zero, List.set_cons_succ]
    refine wpAnyH_ready (rs := [27, 30]) (by kernel_rfl) (by simp) ?_
    refine (AllReadyH.cons (o := ({ dst := some 45, op := Go.Op.buildSlice 22 3 #[(0, Go.Operand.const (Go.Value.slice none 0 0)), (1, Go.Operand.tmp 43), (2, Go.Operand.tmp 44)], type := 22, pos := "hash.go:97", after := #[{ on := 25, ground := Go.Ground.data }, { on := 26, ground := Go.Ground.data }, { on := 24, ground := Go.Ground.guard }], guard := some (24, true) } : Oper)) rfl (fun K hK => ?_) (AllReadyH.cons (o := ({ dst := some 48, op := Go.Op.buildSlice 22 1 #[(0, Go.Operand.tmp 47)], type := 22, pos := "hash.go:97", after := #[{ on := 29, ground := Go.Ground.data }, { on := 24, ground := Go.Ground.guard }], guard := some (24, true) } : Oper)) rfl (fun K hK => ?_) AllReadyH.nil))
    · go_simp
      refine hK.out _ _ ?_ (fun hHeld8 => ?_)
      · (try dsimp only); first | exact held2 hS ((Keep.refl [] _).drew) | exact held2 (by assumption) hk | exact held2 (by assumption) ((Keep.refl [] _).alloc _)
      clear hK K
      try simp only [Act.put, List.setIfInBounds_toArray, List.set_cons_zero, List.set_cons_succ]
      refine wpAnyH_ready (rs := [28, 30]) (by kernel_rfl) (by simp) ?_
      refine (AllReadyH.cons (o := ({ dst := some 46, op := Go.Op.call { callee := Go.Callee.value (Go.Operand.func 21), args := #[Go.Operand.const (Go.Value.int Go.IntKind.i64 32), Go.Operand.tmp 45], argTypes := #[3, 22] }, type := 33, pos := "hash.go:97", after := #[{ on := 27, ground := Go.Ground.data }, { on := 24, ground := Go.Ground.chain }, { on := 24, ground := Go.Ground.guard }], guard := some (24, true) } : Oper)) rfl (fun K hK => ?_) (AllReadyH.cons (o := ({ dst := some 48, op := Go.Op.buildSlice 22 1 #[(0, Go.Operand.tmp 47)], type := 22, pos := "hash.go:97", after := #[{ on := 29, ground := Go.Ground.data }, { on := 24, ground := Go.Ground.guard }], guard := some (24, true) } : Oper)) rfl (fun K hK => ?_) AllReadyH.nil))
      · go_simp
        (refine (F21.out _ _ ?_).mono ?_; (repeat (first | (refine rowsE3 (hx7.keep (S := []) ?_ (by simp)) _ _ (by first | exact nilIn _ | exact emptyIn _ _) _ (by simp); (repeat (first | assumption | exact Keep.refl _ _ | exact (Keep.refl [] _).drew | refine Keep.alloc ?_ _ | refine Keep.trans' ?_ (by assumption)))) | (refine RowsE.keep ?_ ((Keep.refl [] _).alloc _)) | (refine RowsE.keep ?_ (by assumption)))); rintro e w' ⟨rfl, hk⟩)
        go_wp2_with fail
        refine hK.out _ _ ?_ (fun hHeld9 => ?_)
        · (try dsimp only); first | exact held2 hS ((Keep.refl [] _).drew) | exact held2 (by assumption) hk | exact held2 (by assumption) ((Keep.refl [] _).alloc _)
        clear hK K
        try simp only [Act.put, List.setIfInBounds_toArray, List.set_cons_zero, List.set_cons_succ]
        refine wpAnyH_ready (rs := [30]) (by kernel_rfl) (by simp) ?_
        refine (AllReadyH.cons (o := ({ dst := some 48, op := Go.Op.buildSlice 22 1 #[(0, Go.Operand.tmp 47)], type := 22, pos := "hash.go:97", after := #[{ on := 29, ground := Go.Ground.data }, { on := 24, ground := Go.Ground.guard }], guard := some (24, true) } : Oper)) rfl (fun K hK => ?_) AllReadyH.nil)
        go_simp
        refine hK.out _ _ ?_ (fun hHeld10 => ?_)
        · (try dsimp only); first | exact held2 hS ((Keep.refl [] _).drew) | exact held2 (by assumption) hk | exact held2 (by assumption) ((Keep.refl [] _).alloc _)
        clear hK K
        try simp only [Act.put, List.setIfInBounds_toArray, List.set_cons_zero, List.set_cons_succ]
        refine wpAnyH_ready (rs := [31]) (by kernel_rfl) (by simp) ?_
        refine (AllReadyH.cons (o := ({ dst := some 49, op := Go.Op.call { callee := Go.Callee.value (Go.Operand.func 21), args := #[Go.Operand.const (Go.Value.int Go.IntKind.i64 32), Go.Operand.tmp 48], argTypes := #[3, 22] }, type := 33, pos := "hash.go:97", after := #[{ on := 30, ground := Go.Ground.data }, { on := 28, ground := Go.Ground.chain }, { on := 24, ground := Go.Ground.guard }], guard := some (24, true) } : Oper)) rfl (fun K hK => ?_) AllReadyH.nil)
        go_simp
        (refine (F21s.out _ _ ?_).mono ?_; (repeat (first | (refine rowsE1 (hx7.keep (S := []) ?_ (by simp)) _ (by simp); (repeat (first | assumption | exact Keep.refl _ _ | exact (Keep.refl [] _).drew | refine Keep.alloc ?_ _ | refine Keep.trans' ?_ (by assumption)))) | (refine RowsE.keep ?_ ((Keep.refl [] _).alloc _)) | (refine RowsE.keep ?_ (by assumption)))); rintro e w' ⟨rfl, hk⟩)
        go_wp2_with fail
        refine hK.out _ _ ?_ (fun hHeld11 => ?_)
        · (try dsimp only); first | exact held2 hS ((Keep.refl [] _).drew) | exact held2 (by assumption) hk | exact held2 (by assumption) ((Keep.refl [] _).alloc _)
        clear hK K
        try simp only [Act.put, List.setIfInBounds_toArray, List.set_cons_zero, List.set_cons_succ]
        refine wpAnyH_take (i := 32) (oi := ({ dst := some 50, op := Go.Op.binOp Go.BinOp.eql 33 (Go.Operand.tmp 46) (Go.Operand.tmp 49) 33, type := 4, pos := "hash.go:97", after := #[{ on := 28, ground := Go.Ground.data }, { on := 31, ground := Go.Ground.data }, { on := 24, ground := Go.Ground.guard }], guard := some (24, true) } : Oper)) (v := ?_) rfl (by kernel_rfl) (by kernel_rfl) (by kernel_rfl) (fun _ _ _ h => h) (Or.inl ⟨by rfl, ?_⟩) (by assumption) ?_
        rotate_left
        · (intro w hSw; (try dsimp only at hSw); go_simp; try with_reducible rfl)
        try simp only [Act.put, List.setIfInBounds_toArray, List.set_cons_zero, List.set_cons_succ]
        refine wpAnyH_take (i := 33) (oi := ({ dst := some 51, op := Go.Op.pick (Go.Operand.tmp 42) (Go.Operand.tmp 50) (Go.Operand.const (Go.Value.bool false)), type := 4, pos := "hash.go:97", after := #[{ on := 24, ground := Go.Ground.data }, { on := 32, ground := Go.Ground.data }], guard := none } : Oper)) (v := ?_) rfl (by kernel_rfl) (by kernel_rfl) (by kernel_rfl) (fun _ _ _ h => h) (Or.inl ⟨by rfl, ?_⟩) (by assumption) ?_
        rotate_left
        · (intro w hSw; (try dsimp only at hSw); go_simp; try with_reducible rfl)
        try simp only [Act.put, List.setIfInBounds_toArray, List.set_cons_zero, List.set_cons_succ]
        refine wpAnyH_take (i := 34) (oi := ({ dst := some 52, op := Go.Op.move (Go.Operand.tmp 51), type := 4, pos := "hash.go:97", after := #[{ on := 33, ground := Go.Ground.data }, { on := 31, ground := Go.Ground.chain }], guard := none } : Oper)) (v := ?_) rfl (by kernel_rfl) (by kernel_rfl) (by kernel_rfl) (fun _ _ _ h => h) (Or.inl ⟨by rfl, ?_⟩) (by assumption) ?_
        rotate_left
        · (intro w hSw; (try dsimp only at hSw); go_simp; try with_reducible rfl)
        try simp only [Act.put, List.setIfInBounds_toArray, List.set_cons_zero, List.set_cons_succ]
        refine wpAnyH_take (i := 36) (oi := ({ dst := some 54, op := Go.Op.load 26 (Go.Operand.tmp 6), type := 26, pos := "hash.go:97", after := #[{ on := 34, ground := Go.Ground.guard }], guard := some (34, true) } : Oper)) (v := .agg (List.toArray (bs D))) rfl (by kernel_rfl) (by kernel_rfl) (by kernel_rfl) (fun _ _ _ h => h) (yieldsIf_load_mid (by rfl) _ _ rfl _ _ rfl (bs D) _ (fun w hSw => hSw.2.1) hu rfl hi1) (by assumption) ?_
        try simp only [Act.put, List.setIfInBounds_toArray, List.set_cons_zero, List.set_cons_succ]
        refine wpAnyH_ready (rs := [35]) (by kernel_rfl) (by simp) ?_
        refine (AllReadyH.cons (o := ({ dst := some 53, op := Go.Op.call { callee := Go.Callee.value (Go.Operand.func 31), args := #[Go.Operand.tmp 7], argTypes := #[53] }, type := 26, pos := "hash.go:97", after := #[{ on := 34, ground := Go.Ground.chain }, { on := 34, ground := Go.Ground.guard }], guard := some (34, true) } : Oper)) rfl (fun K hK => ?_) AllReadyH.nil)
        go_simp
        (refine (S31h.out _ ?_).mono ?_; (repeat (first | assumption | exact Keep.refl _ _ | exact (Keep.refl [] _).drew | refine Keep.alloc ?_ _ | refine Keep.trans' ?_ (by assumption))); rintro e w' ⟨rfl, hk⟩)
        go_wp2_with fail
        refine hK.out _ _ ?_ (fun hHeld12 => ?_)
        · (try dsimp only); first | exact held2 hS ((Keep.refl [] _).drew) | exact held2 (by assumption) hk | exact held2 (by assumption) ((Keep.refl [] _).alloc _)
        clear hK K
        try simp only [Act.put, List.setIfInBounds_toArray, List.set_cons_zero, List.set_cons_succ]
        refine wpAnyH_take (i := 37) (oi := ({ dst := some 55, op := Go.Op.binOp Go.BinOp.eql 26 (Go.Operand.tmp 53) (Go.Operand.tmp 54) 26, type := 4, pos := "hash.go:97", after := #[{ on := 35, ground := Go.Ground.data }, { on := 36, ground := Go.Ground.data }, { on := 34, ground := Go.Ground.guard }], guard := some (34, true) } : Oper)) (v := ?_) rfl (by kernel_rfl) (by kernel_rfl) (by kernel_rfl) (fun _ _ _ h => h) (Or.inl ⟨by rfl, ?_⟩) (by assumption) ?_
        rotate_left
        · (intro w hSw; (try dsimp only at hSw); go_simp; try with_reducible rfl)
        try simp only [Act.put, List.setIfInBounds_toArray, List.set_cons_zero, List.set_cons_succ]
        refine wpAnyH_take (i := 38) (oi := ({ dst := some 56, op := Go.Op.pick (Go.Operand.tmp 52) (Go.Operand.tmp 55) (Go.Operand.const (Go.Value.bool false)), type := 4, pos := "hash.go:97", after := #[{ on := 34, ground := Go.Ground.data }, { on := 37, ground := Go.Ground.data }], guard := none } : Oper)) (v := ?_) rfl (by kernel_rfl) (by kernel_rfl) (by kernel_rfl) (fun _ _ _ h => h) (Or.inl ⟨by rfl, ?_⟩) (by assumption) ?_
        rotate_left
        · (intro w hSw; (try dsimp only at hSw); go_simp; try with_reducible rfl)
        try simp only [Act.put, List.setIfInBounds_toArray, List.set_cons_zero, List.set_cons_succ]
        refine wpAnyH_take (i := 39) (oi := ({ dst := some 2, op := Go.Op.assign (Go.Operand.tmp 56), type := 4, pos := "hash.go:97", after := #[{ on := 38, ground := Go.Ground.data }, { on := 35, ground := Go.Ground.chain }, { on := 0, ground := Go.Ground.phase }, { on := 1, ground := Go.Ground.phase }, { on := 2, ground := Go.Ground.phase }, { on := 3, ground := Go.Ground.phase }, { on := 4, ground := Go.Ground.phase }, { on := 5, ground := Go.Ground.phase }, { on := 6, ground := Go.Ground.phase }, { on := 7, ground := Go.Ground.phase }, { on := 8, ground := Go.Ground.phase }, { on := 9, ground := Go.Ground.phase }, { on := 10, ground := Go.Ground.phase }, { on := 11, ground := Go.Ground.phase }, { on := 12, ground := Go.Ground.phase }, { on := 13, ground := Go.Ground.phase }, { on := 14, ground := Go.Ground.phase }, { on := 15, ground := Go.Ground.phase }, { on := 16, ground := Go.Ground.phase }, { on := 17, ground := Go.Ground.phase }, { on := 18, ground := Go.Ground.phase }, { on := 19, ground := Go.Ground.phase }, { on := 20, ground := Go.Ground.phase }, { on := 21, ground := Go.Ground.phase }, { on := 22, ground := Go.Ground.phase }, { on := 23, ground := Go.Ground.phase }, { on := 24, ground := Go.Ground.phase }, { on := 25, ground := Go.Ground.phase }, { on := 26, ground := Go.Ground.phase }, { on := 27, ground := Go.Ground.phase }, { on := 28, ground := Go.Ground.phase }, { on := 29, ground := Go.Ground.phase }, { on := 30, ground := Go.Ground.phase }, { on := 31, ground := Go.Ground.phase }, { on := 32, ground := Go.Ground.phase }, { on := 33, ground := Go.Ground.phase }, { on := 34, ground := Go.Ground.phase }, { on := 35, ground := Go.Ground.phase }, { on := 36, ground := Go.Ground.phase }, { on := 37, ground := Go.Ground.phase }, { on := 38, ground := Go.Ground.phase }], guard := none } : Oper)) (v := ?_) rfl (by kernel_rfl) (by kernel_rfl) (by kernel_rfl) (fun _ _ _ h => h) (Or.inl ⟨by rfl, ?_⟩) (by assumption) ?_
        rotate_left
        · (intro w hSw; (try dsimp only at hSw); go_simp; try with_reducible rfl)
        try simp only [Act.put, List.setIfInBounds_toArray, List.set_cons_zero, List.set_cons_succ]
        refine wpAnyH_done (by kernel_rfl) ?_ _
        refine NoPanic.normal ?_
        go_wp2_with fail; go_returns; exact ⟨rfl, k7.trans' (held2k (b := P1) (g := P2) (cs := bs D0) (ds := bs D) (by assumption))⟩
      · go_simp
        refine hK.out _ _ ?_ (fun hHeld12 => ?_)
        · (try dsimp only); first | exact held2 hS ((Keep.refl [] _).drew) | exact held2 (by assumption) hk | exact held2 (by assumption) ((Keep.refl [] _).alloc _)
        clear hK K
        try simp only [Act.put, List.setIfInBounds_toArray, List.set_cons_zero, List.set_cons_succ]
        refine wpAnyH_ready (rs := [28]) (by kernel_rfl) (by simp) ?_
        refine (AllReadyH.cons (o := ({ dst := some 46, op := Go.Op.call { callee := Go.Callee.value (Go.Operand.func 21), args := #[Go.Operand.const (Go.Value.int Go.IntKind.i64 32), Go.Operand.tmp 45], argTypes := #[3, 22] }, type := 33, pos := "hash.go:97", after := #[{ on := 27, ground := Go.Ground.data }, { on := 24, ground := Go.Ground.chain }, { on := 24, ground := Go.Ground.guard }], guard := some (24, true) } : Oper)) rfl (fun K hK => ?_) AllReadyH.nil)
        go_simp
        (refine (F21.out _ _ ?_).mono ?_; (repeat (first | (refine rowsE3 (hx7.keep (S := []) ?_ (by simp)) _ _ (by first | exact nilIn _ | exact emptyIn _ _) _ (by simp); (repeat (first | assumption | exact Keep.refl _ _ | exact (Keep.refl [] _).drew | refine Keep.alloc ?_ _ | refine Keep.trans' ?_ (by assumption)))) | (refine RowsE.keep ?_ ((Keep.refl [] _).alloc _)) | (refine RowsE.keep ?_ (by assumption)))); rintro e w' ⟨rfl, hk⟩)
        go_wp2_with fail
        refine hK.out _ _ ?_ (fun hHeld13 => ?_)
        · (try dsimp only); first | exact held2 hS ((Keep.refl [] _).drew) | exact held2 (by assumption) hk | exact held2 (by assumption) ((Keep.refl [] _).alloc _)
        clear hK K
        try simp only [Act.put, List.setIfInBounds_toArray, List.set_cons_zero, List.set_cons_succ]
        refine wpAnyH_ready (rs := [31]) (by kernel_rfl) (by simp) ?_
        refine (AllReadyH.cons (o := ({ dst := some 49, op := Go.Op.call { callee := Go.Callee.value (Go.Operand.func 21), args := #[Go.Operand.const (Go.Value.int Go.IntKind.i64 32), Go.Operand.tmp 48], argTypes := #[3, 22] }, type := 33, pos := "hash.go:97", after := #[{ on := 30, ground := Go.Ground.data }, { on := 28, ground := Go.Ground.chain }, { on := 24, ground := Go.Ground.guard }], guard := some (24, true) } : Oper)) rfl (fun K hK => ?_) AllReadyH.nil)
        go_simp
        (refine (F21s.out _ _ ?_).mono ?_; (repeat (first | (refine rowsE1 (hx7.keep (S := []) ?_ (by simp)) _ (by simp); (repeat (first | assumption | exact Keep.refl _ _ | exact (Keep.refl [] _).drew | refine Keep.alloc ?_ _ | refine Keep.trans' ?_ (by assumption)))) | (refine RowsE.keep ?_ ((Keep.refl [] _).alloc _)) | (refine RowsE.keep ?_ (by assumption)))); rintro e w' ⟨rfl, hk⟩)
        go_wp2_with fail
        refine hK.out _ _ ?_ (fun hHeld14 => ?_)
        · (try dsimp only); first | exact held2 hS ((Keep.refl [] _).drew) | exact held2 (by assumption) hk | exact held2 (by assumption) ((Keep.refl [] _).alloc _)
        clear hK K
        try simp only [Act.put, List.setIfInBounds_toArray, List.set_cons_zero, List.set_cons_succ]
        refine wpAnyH_take (i := 32) (oi := ({ dst := some 50, op := Go.Op.binOp Go.BinOp.eql 33 (Go.Operand.tmp 46) (Go.Operand.tmp 49) 33, type := 4, pos := "hash.go:97", after := #[{ on := 28, ground := Go.Ground.data }, { on := 31, ground := Go.Ground.data }, { on := 24, ground := Go.Ground.guard }], guard := some (24, true) } : Oper)) (v := ?_) rfl (by kernel_rfl) (by kernel_rfl) (by kernel_rfl) (fun _ _ _ h => h) (Or.inl ⟨by rfl, ?_⟩) (by assumption) ?_
        rotate_left
        · (intro w hSw; (try dsimp only at hSw); go_simp; try with_reducible rfl)
        try simp only [Act.put, List.setIfInBounds_toArray, List.set_cons_zero, List.set_cons_succ]
        refine wpAnyH_take (i := 33) (oi := ({ dst := some 51, op := Go.Op.pick (Go.Operand.tmp 42) (Go.Operand.tmp 50) (Go.Operand.const (Go.Value.bool false)), type := 4, pos := "hash.go:97", after := #[{ on := 24, ground := Go.Ground.data }, { on := 32, ground := Go.Ground.data }], guard := none } : Oper)) (v := ?_) rfl (by kernel_rfl) (by kernel_rfl) (by kernel_rfl) (fun _ _ _ h => h) (Or.inl ⟨by rfl, ?_⟩) (by assumption) ?_
        rotate_left
        · (intro w hSw; (try dsimp only at hSw); go_simp; try with_reducible rfl)
        try simp only [Act.put, List.setIfInBounds_toArray, List.set_cons_zero, List.set_cons_succ]
        refine wpAnyH_take (i := 34) (oi := ({ dst := some 52, op := Go.Op.move (Go.Operand.tmp 51), type := 4, pos := "hash.go:97", after := #[{ on := 33, ground := Go.Ground.data }, { on := 31, ground := Go.Ground.chain }], guard := none } : Oper)) (v := ?_) rfl (by kernel_rfl) (by kernel_rfl) (by kernel_rfl) (fun _ _ _ h => h) (Or.inl ⟨by rfl, ?_⟩) (by assumption) ?_
        rotate_left
        · (intro w hSw; (try dsimp only at hSw); go_simp; try with_reducible rfl)
        try simp only [Act.put, List.setIfInBounds_toArray, List.set_cons_zero, List.set_cons_succ]
        refine wpAnyH_take (i := 36) (oi := ({ dst := some 54, op := Go.Op.load 26 (Go.Operand.tmp 6), type := 26, pos := "hash.go:97", after := #[{ on := 34, ground := Go.Ground.guard }], guard := some (34, true) } : Oper)) (v := .agg (List.toArray (bs D))) rfl (by kernel_rfl) (by kernel_rfl) (by kernel_rfl) (fun _ _ _ h => h) (yieldsIf_load_mid (by rfl) _ _ rfl _ _ rfl (bs D) _ (fun w hSw => hSw.2.1) hu rfl hi1) (by assumption) ?_
        try simp only [Act.put, List.setIfInBounds_toArray, List.set_cons_zero, List.set_cons_succ]
        refine wpAnyH_ready (rs := [35]) (by kernel_rfl) (by simp) ?_
        refine (AllReadyH.cons (o := ({ dst := some 53, op := Go.Op.call { callee := Go.Callee.value (Go.Operand.func 31), args := #[Go.Operand.tmp 7], argTypes := #[53] }, type := 26, pos := "hash.go:97", after := #[{ on := 34, ground := Go.Ground.chain }, { on := 34, ground := Go.Ground.guard }], guard := some (34, true) } : Oper)) rfl (fun K hK => ?_) AllReadyH.nil)
        go_simp
        (refine (S31h.out _ ?_).mono ?_; (repeat (first | assumption | exact Keep.refl _ _ | exact (Keep.refl [] _).drew | refine Keep.alloc ?_ _ | refine Keep.trans' ?_ (by assumption))); rintro e w' ⟨rfl, hk⟩)
        go_wp2_with fail
        refine hK.out _ _ ?_ (fun hHeld15 => ?_)
        · (try dsimp only); first | exact held2 hS ((Keep.refl [] _).drew) | exact held2 (by assumption) hk | exact held2 (by assumption) ((Keep.refl [] _).alloc _)
        clear hK K
        try simp only [Act.put, List.setIfInBounds_toArray, List.set_cons_zero, List.set_cons_succ]
        refine wpAnyH_take (i := 37) (oi := ({ dst := some 55, op := Go.Op.binOp Go.BinOp.eql 26 (Go.Operand.tmp 53) (Go.Operand.tmp 54) 26, type := 4, pos := "hash.go:97", after := #[{ on := 35, ground := Go.Ground.data }, { on := 36, ground := Go.Ground.data }, { on := 34, ground := Go.Ground.guard }], guard := some (34, true) } : Oper)) (v := ?_) rfl (by kernel_rfl) (by kernel_rfl) (by kernel_rfl) (fun _ _ _ h => h) (Or.inl ⟨by rfl, ?_⟩) (by assumption) ?_
        rotate_left
        · (intro w hSw; (try dsimp only at hSw); go_simp; try with_reducible rfl)
        try simp only [Act.put, List.setIfInBounds_toArray, List.set_cons_zero, List.set_cons_succ]
        refine wpAnyH_take (i := 38) (oi := ({ dst := some 56, op := Go.Op.pick (Go.Operand.tmp 52) (Go.Operand.tmp 55) (Go.Operand.const (Go.Value.bool false)), type := 4, pos := "hash.go:97", after := #[{ on := 34, ground := Go.Ground.data }, { on := 37, ground := Go.Ground.data }], guard := none } : Oper)) (v := ?_) rfl (by kernel_rfl) (by kernel_rfl) (by kernel_rfl) (fun _ _ _ h => h) (Or.inl ⟨by rfl, ?_⟩) (by assumption) ?_
        rotate_left
        · (intro w hSw; (try dsimp only at hSw); go_simp; try with_reducible rfl)
        try simp only [Act.put, List.setIfInBounds_toArray, List.set_cons_zero, List.set_cons_succ]
        refine wpAnyH_take (i := 39) (oi := ({ dst := some 2, op := Go.Op.assign (Go.Operand.tmp 56), type := 4, pos := "hash.go:97", after := #[{ on := 38, ground := Go.Ground.data }, { on := 35, ground := Go.Ground.chain }, { on := 0, ground := Go.Ground.phase }, { on := 1, ground := Go.Ground.phase }, { on := 2, ground := Go.Ground.phase }, { on := 3, ground := Go.Ground.phase }, { on := 4, ground := Go.Ground.phase }, { on := 5, ground := Go.Ground.phase }, { on := 6, ground := Go.Ground.phase }, { on := 7, ground := Go.Ground.phase }, { on := 8, ground := Go.Ground.phase }, { on := 9, ground := Go.Ground.phase }, { on := 10, ground := Go.Ground.phase }, { on := 11, ground := Go.Ground.phase }, { on := 12, ground := Go.Ground.phase }, { on := 13, ground := Go.Ground.phase }, { on := 14, ground := Go.Ground.phase }, { on := 15, ground := Go.Ground.phase }, { on := 16, ground := Go.Ground.phase }, { on := 17, ground := Go.Ground.phase }, { on := 18, ground := Go.Ground.phase }, { on := 19, ground := Go.Ground.phase }, { on := 20, ground := Go.Ground.phase }, { on := 21, ground := Go.Ground.phase }, { on := 22, ground := Go.Ground.phase }, { on := 23, ground := Go.Ground.phase }, { on := 24, ground := Go.Ground.phase }, { on := 25, ground := Go.Ground.phase }, { on := 26, ground := Go.Ground.phase }, { on := 27, ground := Go.Ground.phase }, { on := 28, ground := Go.Ground.phase }, { on := 29, ground := Go.Ground.phase }, { on := 30, ground := Go.Ground.phase }, { on := 31, ground := Go.Ground.phase }, { on := 32, ground := Go.Ground.phase }, { on := 33, ground := Go.Ground.phase }, { on := 34, ground := Go.Ground.phase }, { on := 35, ground := Go.Ground.phase }, { on := 36, ground := Go.Ground.phase }, { on := 37, ground := Go.Ground.phase }, { on := 38, ground := Go.Ground.phase }], guard := none } : Oper)) (v := ?_) rfl (by kernel_rfl) (by kernel_rfl) (by kernel_rfl) (fun _ _ _ h => h) (Or.inl ⟨by rfl, ?_⟩) (by assumption) ?_
        rotate_left
        · (intro w hSw; (try dsimp only at hSw); go_simp; try with_reducible rfl)
        try simp only [Act.put, List.setIfInBounds_toArray, List.set_cons_zero, List.set_cons_succ]
        refine wpAnyH_done (by kernel_rfl) ?_ _
        refine NoPanic.normal ?_
        go_wp2_with fail; go_returns; exact ⟨rfl, k7.trans' (held2k (b := P1) (g := P2) (cs := bs D0) (ds := bs D) (by assumption))⟩
    · go_simp
      refine hK.out _ _ ?_ (fun hHeld15 => ?_)
      · (try dsimp only); first | exact held2 hS ((Keep.refl [] _).drew) | exact held2 (by assumption) hk | exact held2 (by assumption) ((Keep.refl [] _).alloc _)
      clear hK K
      try simp only [Act.put, List.setIfInBounds_toArray, List.set_cons_zero, List.set_cons_succ]
      refine wpAnyH_ready (rs := [27]) (by kernel_rfl) (by simp) ?_
      refine (AllReadyH.cons (o := ({ dst := some 45, op := Go.Op.buildSlice 22 3 #[(0, Go.Operand.const (Go.Value.slice none 0 0)), (1, Go.Operand.tmp 43), (2, Go.Operand.tmp 44)], type := 22, pos := "hash.go:97", after := #[{ on := 25, ground := Go.Ground.data }, { on := 26, ground := Go.Ground.data }, { on := 24, ground := Go.Ground.guard }], guard := some (24, true) } : Oper)) rfl (fun K hK => ?_) AllReadyH.nil)
      go_simp
      refine hK.out _ _ ?_ (fun hHeld16 => ?_)
      · (try dsimp only); first | exact held2 hS ((Keep.refl [] _).drew) | exact held2 (by assumption) hk | exact held2 (by assumption) ((Keep.refl [] _).alloc _)
      clear hK K
      try simp only [Act.put, List.setIfInBounds_toArray, List.set_cons_zero, List.set_cons_succ]
      refine wpAnyH_ready (rs := [28]) (by kernel_rfl) (by simp) ?_
      refine (AllReadyH.cons (o := ({ dst := some 46, op := Go.Op.call { callee := Go.Callee.value (Go.Operand.func 21), args := #[Go.Operand.const (Go.Value.int Go.IntKind.i64 32), Go.Operand.tmp 45], argTypes := #[3, 22] }, type := 33, pos := "hash.go:97", after := #[{ on := 27, ground := Go.Ground.data }, { on := 24, ground := Go.Ground.chain }, { on := 24, ground := Go.Ground.guard }], guard := some (24, true) } : Oper)) rfl (fun K hK => ?_) AllReadyH.nil)
      go_simp
      (refine (F21.out _ _ ?_).mono ?_; (repeat (first | (refine rowsE3 (hx7.keep (S := []) ?_ (by simp)) _ _ (by first | exact nilIn _ | exact emptyIn _ _) _ (by simp); (repeat (first | assumption | exact Keep.refl _ _ | exact (Keep.refl [] _).drew | refine Keep.alloc ?_ _ | refine Keep.trans' ?_ (by assumption)))) | (refine RowsE.keep ?_ ((Keep.refl [] _).alloc _)) | (refine RowsE.keep ?_ (by assumption)))); rintro e w' ⟨rfl, hk⟩)
      go_wp2_with fail
      refine hK.out _ _ ?_ (fun hHeld17 => ?_)
      · (try dsimp only); first | exact held2 hS ((Keep.refl [] _).drew) | exact held2 (by assumption) hk | exact held2 (by assumption) ((Keep.refl [] _).alloc _)
      clear hK K
      try simp only [Act.put, List.setIfInBounds_toArray, List.set_cons_zero, List.set_cons_succ]
      refine wpAnyH_ready (rs := [31]) (by kernel_rfl) (by simp) ?_
      refine (AllReadyH.cons (o := ({ dst := some 49, op := Go.Op.call { callee := Go.Callee.value (Go.Operand.func 21), args := #[Go.Operand.const (Go.Value.int Go.IntKind.i64 32), Go.Operand.tmp 48], argTypes := #[3, 22] }, type := 33, pos := "hash.go:97", after := #[{ on := 30, ground := Go.Ground.data }, { on := 28, ground := Go.Ground.chain }, { on := 24, ground := Go.Ground.guard }], guard := some (24, true) } : Oper)) rfl (fun K hK => ?_) AllReadyH.nil)
      go_simp
      (refine (F21s.out _ _ ?_).mono ?_; (repeat (first | (refine rowsE1 (hx7.keep (S := []) ?_ (by simp)) _ (by simp); (repeat (first | assumption | exact Keep.refl _ _ | exact (Keep.refl [] _).drew | refine Keep.alloc ?_ _ | refine Keep.trans' ?_ (by assumption)))) | (refine RowsE.keep ?_ ((Keep.refl [] _).alloc _)) | (refine RowsE.keep ?_ (by assumption)))); rintro e w' ⟨rfl, hk⟩)
      go_wp2_with fail
      refine hK.out _ _ ?_ (fun hHeld18 => ?_)
      · (try dsimp only); first | exact held2 hS ((Keep.refl [] _).drew) | exact held2 (by assumption) hk | exact held2 (by assumption) ((Keep.refl [] _).alloc _)
      clear hK K
      try simp only [Act.put, List.setIfInBounds_toArray, List.set_cons_zero, List.set_cons_succ]
      refine wpAnyH_take (i := 32) (oi := ({ dst := some 50, op := Go.Op.binOp Go.BinOp.eql 33 (Go.Operand.tmp 46) (Go.Operand.tmp 49) 33, type := 4, pos := "hash.go:97", after := #[{ on := 28, ground := Go.Ground.data }, { on := 31, ground := Go.Ground.data }, { on := 24, ground := Go.Ground.guard }], guard := some (24, true) } : Oper)) (v := ?_) rfl (by kernel_rfl) (by kernel_rfl) (by kernel_rfl) (fun _ _ _ h => h) (Or.inl ⟨by rfl, ?_⟩) (by assumption) ?_
      rotate_left
      · (intro w hSw; (try dsimp only at hSw); go_simp; try with_reducible rfl)
      try simp only [Act.put, List.setIfInBounds_toArray, List.set_cons_zero, List.set_cons_succ]
      refine wpAnyH_take (i := 33) (oi := ({ dst := some 51, op := Go.Op.pick (Go.Operand.tmp 42) (Go.Operand.tmp 50) (Go.Operand.const (Go.Value.bool false)), type := 4, pos := "hash.go:97", after := #[{ on := 24, ground := Go.Ground.data }, { on := 32, ground := Go.Ground.data }], guard := none } : Oper)) (v := ?_) rfl (by kernel_rfl) (by kernel_rfl) (by kernel_rfl) (fun _ _ _ h => h) (Or.inl ⟨by rfl, ?_⟩) (by assumption) ?_
      rotate_left
      · (intro w hSw; (try dsimp only at hSw); go_simp; try with_reducible rfl)
      try simp only [Act.put, List.setIfInBounds_toArray, List.set_cons_zero, List.set_cons_succ]
      refine wpAnyH_take (i := 34) (oi := ({ dst := some 52, op := Go.Op.move (Go.Operand.tmp 51), type := 4, pos := "hash.go:97", after := #[{ on := 33, ground := Go.Ground.data }, { on := 31, ground := Go.Ground.chain }], guard := none } : Oper)) (v := ?_) rfl (by kernel_rfl) (by kernel_rfl) (by kernel_rfl) (fun _ _ _ h => h) (Or.inl ⟨by rfl, ?_⟩) (by assumption) ?_
      rotate_left
      · (intro w hSw; (try dsimp only at hSw); go_simp; try with_reducible rfl)
      try simp only [Act.put, List.setIfInBounds_toArray, List.set_cons_zero, List.set_cons_succ]
      refine wpAnyH_take (i := 36) (oi := ({ dst := some 54, op := Go.Op.load 26 (Go.Operand.tmp 6), type := 26, pos := "hash.go:97", after := #[{ on := 34, ground := Go.Ground.guard }], guard := some (34, true) } : Oper)) (v := .agg (List.toArray (bs D))) rfl (by kernel_rfl) (by kernel_rfl) (by kernel_rfl) (fun _ _ _ h => h) (yieldsIf_load_mid (by rfl) _ _ rfl _ _ rfl (bs D) _ (fun w hSw => hSw.2.1) hu rfl hi1) (by assumption) ?_
      try simp only [Act.put, List.setIfInBounds_toArray, List.set_cons_zero, List.set_cons_succ]
      refine wpAnyH_ready (rs := [35]) (by kernel_rfl) (by simp) ?_
      refine (AllReadyH.cons (o := ({ dst := some 53, op := Go.Op.call { callee := Go.Callee.value (Go.Operand.func 31), args := #[Go.Operand.tmp 7], argTypes := #[53] }, type := 26, pos := "hash.go:97", after := #[{ on := 34, ground := Go.Ground.chain }, { on := 34, ground := Go.Ground.guard }], guard := some (34, true) } : Oper)) rfl (fun K hK => ?_) AllReadyH.nil)
      go_simp
      (refine (S31h.out _ ?_).mono ?_; (repeat (first | assumption | exact Keep.refl _ _ | exact (Keep.refl [] _).drew | refine Keep.alloc ?_ _ | refine Keep.trans' ?_ (by assumption))); rintro e w' ⟨rfl, hk⟩)
      go_wp2_with fail
      refine hK.out _ _ ?_ (fun hHeld19 => ?_)
      · (try dsimp only); first | exact held2 hS ((Keep.refl [] _).drew) | exact held2 (by assumption) hk | exact held2 (by assumption) ((Keep.refl [] _).alloc _)
      clear hK K
      try simp only [Act.put, List.setIfInBounds_toArray, List.set_cons_zero, List.set_cons_succ]
      refine wpAnyH_take (i := 37) (oi := ({ dst := some 55, op := Go.Op.binOp Go.BinOp.eql 26 (Go.Operand.tmp 53) (Go.Operand.tmp 54) 26, type := 4, pos := "hash.go:97", after := #[{ on := 35, ground := Go.Ground.data }, { on := 36, ground := Go.Ground.data }, { on := 34, ground := Go.Ground.guard }], guard := some (34, true) } : Oper)) (v := ?_) rfl (by kernel_rfl) (by kernel_rfl) (by kernel_rfl) (fun _ _ _ h => h) (Or.inl ⟨by rfl, ?_⟩) (by assumption) ?_
      rotate_left
      · (intro w hSw; (try dsimp only at hSw); go_simp; try with_reducible rfl)
      try simp only [Act.put, List.setIfInBounds_toArray, List.set_cons_zero, List.set_cons_succ]
      refine wpAnyH_take (i := 38) (oi := ({ dst := some 56, op := Go.Op.pick (Go.Operand.tmp 52) (Go.Operand.tmp 55) (Go.Operand.const (Go.Value.bool false)), type := 4, pos := "hash.go:97", after := #[{ on := 34, ground := Go.Ground.data }, { on := 37, ground := Go.Ground.data }], guard := none } : Oper)) (v := ?_) rfl (by kernel_rfl) (by kernel_rfl) (by kernel_rfl) (fun _ _ _ h => h) (Or.inl ⟨by rfl, ?_⟩) (by assumption) ?_
      rotate_left
      · (intro w hSw; (try dsimp only at hSw); go_simp; try with_reducible rfl)
      try simp only [Act.put, List.setIfInBounds_toArray, List.set_cons_zero, List.set_cons_succ]
      refine wpAnyH_take (i := 39) (oi := ({ dst := some 2, op := Go.Op.assign (Go.Operand.tmp 56), type := 4, pos := "hash.go:97", after := #[{ on := 38, ground := Go.Ground.data }, { on := 35, ground := Go.Ground.chain }, { on := 0, ground := Go.Ground.phase }, { on := 1, ground := Go.Ground.phase }, { on := 2, ground := Go.Ground.phase }, { on := 3, ground := Go.Ground.phase }, { on := 4, ground := Go.Ground.phase }, { on := 5, ground := Go.Ground.phase }, { on := 6, ground := Go.Ground.phase }, { on := 7, ground := Go.Ground.phase }, { on := 8, ground := Go.Ground.phase }, { on := 9, ground := Go.Ground.phase }, { on := 10, ground := Go.Ground.phase }, { on := 11, ground := Go.Ground.phase }, { on := 12, ground := Go.Ground.phase }, { on := 13, ground := Go.Ground.phase }, { on := 14, ground := Go.Ground.phase }, { on := 15, ground := Go.Ground.phase }, { on := 16, ground := Go.Ground.phase }, { on := 17, ground := Go.Ground.phase }, { on := 18, ground := Go.Ground.phase }, { on := 19, ground := Go.Ground.phase }, { on := 20, ground := Go.Ground.phase }, { on := 21, ground := Go.Ground.phase }, { on := 22, ground := Go.Ground.phase }, { on := 23, ground := Go.Ground.phase }, { on := 24, ground := Go.Ground.phase }, { on := 25, ground := Go.Ground.phase }, { on := 26, ground := Go.Ground.phase }, { on := 27, ground := Go.Ground.phase }, { on := 28, ground := Go.Ground.phase }, { on := 29, ground := Go.Ground.phase }, { on := 30, ground := Go.Ground.phase }, { on := 31, ground := Go.Ground.phase }, { on := 32, ground := Go.Ground.phase }, { on := 33, ground := Go.Ground.phase }, { on := 34, ground := Go.Ground.phase }, { on := 35, ground := Go.Ground.phase }, { on := 36, ground := Go.Ground.phase }, { on := 37, ground := Go.Ground.phase }, { on := 38, ground := Go.Ground.phase }], guard := none } : Oper)) (v := ?_) rfl (by kernel_rfl) (by kernel_rfl) (by kernel_rfl) (fun _ _ _ h => h) (Or.inl ⟨by rfl, ?_⟩) (by assumption) ?_
      rotate_left
      · (intro w hSw; (try dsimp only at hSw); go_simp; try with_reducible rfl)
      try simp only [Act.put, List.setIfInBounds_toArray, List.set_cons_zero, List.set_cons_succ]
      refine wpAnyH_done (by kernel_rfl) ?_ _
      refine NoPanic.normal ?_
      go_wp2_with fail; go_returns; exact ⟨rfl, k7.trans' (held2k (b := P1) (g := P2) (cs := bs D0) (ds := bs D) (by assumption))⟩
  · go_simp
    refine hK.out _ _ ?_ (fun hHeld19 => ?_)
    · (try dsimp only); first | exact held2 hS ((Keep.refl [] _).drew) | exact held2 (by assumption) hk | exact held2 (by assumption) ((Keep.refl [] _).alloc _)
    clear hK K
    try simp only [Act.put, List.setIfInBounds_toArray, List.set_cons_zero, List.set_cons_succ]
    refine wpAnyH_ready (rs := [26]) (by kernel_rfl) (by simp) ?_
    refine (AllReadyH.cons (o := ({ dst := some 44, op := Go.Op.buildSlice 29 0 #[], type := 29, pos := "hash.go:97", after := #[{ on := 24, ground := Go.Ground.guard }], guard := some (24, true) } : Oper)) rfl (fun K hK => ?_) AllReadyH.nil)
    go_simp
    refine hK.out _ _ ?_ (fun hHeld20 => ?_)
    · (try dsimp only); first | exact held2 hS ((Keep.refl [] _).drew) | exact held2 (by assumption) hk | exact held2 (by assumption) ((Keep.refl [] _).alloc _)
    clear hK K
    try simp only [Act.put, List.setIfInBounds_toArray, List.set_cons_zero, List.set_cons_succ]
    refine wpAnyH_ready (rs := [27]) (by kernel_rfl) (by simp) ?_
    refine (AllReadyH.cons (o := ({ dst := some 45, op := Go.Op.buildSlice 22 3 #[(0, Go.Operand.const (Go.Value.slice none 0 0)), (1, Go.Operand.tmp 43), (2, Go.Operand.tmp 44)], type := 22, pos := "hash.go:97", after := #[{ on := 25, ground := Go.Ground.data }, { on := 26, ground := Go.Ground.data }, { on := 24, ground := Go.Ground.guard }], guard := some (24, true) } : Oper)) rfl (fun K hK => ?_) AllReadyH.nil)
    go_simp
    refine hK.out _ _ ?_ (fun hHeld21 => ?_)
    · (try dsimp only); first | exact held2 hS ((Keep.refl [] _).drew) | exact held2 (by assumption) hk | exact held2 (by assumption) ((Keep.refl [] _).alloc _)
    clear hK K
    try simp only [Act.put, List.setIfInBounds_toArray, List.set_cons_zero, List.set_cons_succ]
    refine wpAnyH_ready (rs := [28]) (by kernel_rfl) (by simp) ?_
    refine (AllReadyH.cons (o := ({ dst := some 46, op := Go.Op.call { callee := Go.Callee.value (Go.Operand.func 21), args := #[Go.Operand.const (Go.Value.int Go.IntKind.i64 32), Go.Operand.tmp 45], argTypes := #[3, 22] }, type := 33, pos := "hash.go:97", after := #[{ on := 27, ground := Go.Ground.data }, { on := 24, ground := Go.Ground.chain }, { on := 24, ground := Go.Ground.guard }], guard := some (24, true) } : Oper)) rfl (fun K hK => ?_) AllReadyH.nil)
    go_simp
    (refine (F21.out _ _ ?_).mono ?_; (repeat (first | (refine rowsE3 (hx7.keep (S := []) ?_ (by simp)) _ _ (by first | exact nilIn _ | exact emptyIn _ _) _ (by simp); (repeat (first | assumption | exact Keep.refl _ _ | exact (Keep.refl [] _).drew | refine Keep.alloc ?_ _ | refine Keep.trans' ?_ (by assumption)))) | (refine RowsE.keep ?_ ((Keep.refl [] _).alloc _)) | (refine RowsE.keep ?_ (by assumption)))); rintro e w' ⟨rfl, hk⟩)
    go_wp2_with fail
    refine hK.out _ _ ?_ (fun hHeld22 => ?_)
    · (try dsimp only); first | exact held2 hS ((Keep.refl [] _).drew) | exact held2 (by assumption) hk | exact held2 (by assumption) ((Keep.refl [] _).alloc _)
    clear hK K
    try simp only [Act.put, List.setIfInBounds_toArray, List.set_cons_zero, List.set_cons_succ]
    refine wpAnyH_ready (rs := [31]) (by kernel_rfl) (by simp) ?_
    refine (AllReadyH.cons (o := ({ dst := some 49, op := Go.Op.call { callee := Go.Callee.value (Go.Operand.func 21), args := #[Go.Operand.const (Go.Value.int Go.IntKind.i64 32), Go.Operand.tmp 48], argTypes := #[3, 22] }, type := 33, pos := "hash.go:97", after := #[{ on := 30, ground := Go.Ground.data }, { on := 28, ground := Go.Ground.chain }, { on := 24, ground := Go.Ground.guard }], guard := some (24, true) } : Oper)) rfl (fun K hK => ?_) AllReadyH.nil)
    go_simp
    (refine (F21s.out _ _ ?_).mono ?_; (repeat (first | (refine rowsE1 (hx7.keep (S := []) ?_ (by simp)) _ (by simp); (repeat (first | assumption | exact Keep.refl _ _ | exact (Keep.refl [] _).drew | refine Keep.alloc ?_ _ | refine Keep.trans' ?_ (by assumption)))) | (refine RowsE.keep ?_ ((Keep.refl [] _).alloc _)) | (refine RowsE.keep ?_ (by assumption)))); rintro e w' ⟨rfl, hk⟩)
    go_wp2_with fail
    refine hK.out _ _ ?_ (fun hHeld23 => ?_)
    · (try dsimp only); first | exact held2 hS ((Keep.refl [] _).drew) | exact held2 (by assumption) hk | exact held2 (by assumption) ((Keep.refl [] _).alloc _)
    clear hK K
    try simp only [Act.put, List.setIfInBounds_toArray, List.set_cons_zero, List.set_cons_succ]
    refine wpAnyH_take (i := 32) (oi := ({ dst := some 50, op := Go.Op.binOp Go.BinOp.eql 33 (Go.Operand.tmp 46) (Go.Operand.tmp 49) 33, type := 4, pos := "hash.go:97", after := #[{ on := 28, ground := Go.Ground.data }, { on := 31, ground := Go.Ground.data }, { on := 24, ground := Go.Ground.guard }], guard := some (24, true) } : Oper)) (v := ?_) rfl (by kernel_rfl) (by kernel_rfl) (by kernel_rfl) (fun _ _ _ h => h) (Or.inl ⟨by rfl, ?_⟩) (by assumption) ?_
    rotate_left
    · (intro w hSw; (try dsimp only at hSw); go_simp; try with_reducible rfl)
    try simp only [Act.put, List.setIfInBounds_toArray, List.set_cons_zero, List.set_cons_succ]
    refine wpAnyH_take (i := 33) (oi := ({ dst := some 51, op := Go.Op.pick (Go.Operand.tmp 42) (Go.Operand.tmp 50) (Go.Operand.const (Go.Value.bool false)), type := 4, pos := "hash.go:97", after := #[{ on := 24, ground := Go.Ground.data }, { on := 32, ground := Go.Ground.data }], guard := none } : Oper)) (v := ?_) rfl (by kernel_rfl) (by kernel_rfl) (by kernel_rfl) (fun _ _ _ h => h) (Or.inl ⟨by rfl, ?_⟩) (by assumption) ?_
    rotate_left
    · (intro w hSw; (try dsimp only at hSw); go_simp; try with_reducible rfl)
    try simp only [Act.put, List.setIfInBounds_toArray, List.set_cons_zero, List.set_cons_succ]
    refine wpAnyH_take (i := 34) (oi := ({ dst := some 52, op := Go.Op.move (Go.Operand.tmp 51), type := 4, pos := "hash.go:97", after := #[{ on := 33, ground := Go.Ground.data }, { on := 31, ground := Go.Ground.chain }], guard := none } : Oper)) (v := ?_) rfl (by kernel_rfl) (by kernel_rfl) (by kernel_rfl) (fun _ _ _ h => h) (Or.inl ⟨by rfl, ?_⟩) (by assumption) ?_
    rotate_left
    · (intro w hSw; (try dsimp only at hSw); go_simp; try with_reducible rfl)
    try simp only [Act.put, List.setIfInBounds_toArray, List.set_cons_zero, List.set_cons_succ]
    refine wpAnyH_take (i := 36) (oi := ({ dst := some 54, op := Go.Op.load 26 (Go.Operand.tmp 6), type := 26, pos := "hash.go:97", after := #[{ on := 34, ground := Go.Ground.guard }], guard := some (34, true) } : Oper)) (v := .agg (List.toArray (bs D))) rfl (by kernel_rfl) (by kernel_rfl) (by kernel_rfl) (fun _ _ _ h => h) (yieldsIf_load_mid (by rfl) _ _ rfl _ _ rfl (bs D) _ (fun w hSw => hSw.2.1) hu rfl hi1) (by assumption) ?_
    try simp only [Act.put, List.setIfInBounds_toArray, List.set_cons_zero, List.set_cons_succ]
    refine wpAnyH_ready (rs := [35]) (by kernel_rfl) (by simp) ?_
    refine (AllReadyH.cons (o := ({ dst := some 53, op := Go.Op.call { callee := Go.Callee.value (Go.Operand.func 31), args := #[Go.Operand.tmp 7], argTypes := #[53] }, type := 26, pos := "hash.go:97", after := #[{ on := 34, ground := Go.Ground.chain }, { on := 34, ground := Go.Ground.guard }], guard := some (34, true) } : Oper)) rfl (fun K hK => ?_) AllReadyH.nil)
    go_simp
    (refine (S31h.out _ ?_).mono ?_; (repeat (first | assumption | exact Keep.refl _ _ | exact (Keep.refl [] _).drew | refine Keep.alloc ?_ _ | refine Keep.trans' ?_ (by assumption))); rintro e w' ⟨rfl, hk⟩)
    go_wp2_with fail
    refine hK.out _ _ ?_ (fun hHeld24 => ?_)
    · (try dsimp only); first | exact held2 hS ((Keep.refl [] _).drew) | exact held2 (by assumption) hk | exact held2 (by assumption) ((Keep.refl [] _).alloc _)
    clear hK K
    try simp only [Act.put, List.setIfInBounds_toArray, List.set_cons_zero, List.set_cons_succ]
    refine wpAnyH_take (i := 37) (oi := ({ dst := some 55, op := Go.Op.binOp Go.BinOp.eql 26 (Go.Operand.tmp 53) (Go.Operand.tmp 54) 26, type := 4, pos := "hash.go:97", after := #[{ on := 35, ground := Go.Ground.data }, { on := 36, ground := Go.Ground.data }, { on := 34, ground := Go.Ground.guard }], guard := some (34, true) } : Oper)) (v := ?_) rfl (by kernel_rfl) (by kernel_rfl) (by kernel_rfl) (fun _ _ _ h => h) (Or.inl ⟨by rfl, ?_⟩) (by assumption) ?_
    rotate_left
    · (intro w hSw; (try dsimp only at hSw); go_simp; try with_reducible rfl)
    try simp only [Act.put, List.setIfInBounds_toArray, List.set_cons_zero, List.set_cons_succ]
    refine wpAnyH_take (i := 38) (oi := ({ dst := some 56, op := Go.Op.pick (Go.Operand.tmp 52) (Go.Operand.tmp 55) (Go.Operand.const (Go.Value.bool false)), type := 4, pos := "hash.go:97", after := #[{ on := 34, ground := Go.Ground.data }, { on := 37, ground := Go.Ground.data }], guard := none } : Oper)) (v := ?_) rfl (by kernel_rfl) (by kernel_rfl) (by kernel_rfl) (fun _ _ _ h => h) (Or.inl ⟨by rfl, ?_⟩) (by assumption) ?_
    rotate_left
    · (intro w hSw; (try dsimp only at hSw); go_simp; try with_reducible rfl)
    try simp only [Act.put, List.setIfInBounds_toArray, List.set_cons_zero, List.set_cons_succ]
    refine wpAnyH_take (i := 39) (oi := ({ dst := some 2, op := Go.Op.assign (Go.Operand.tmp 56), type := 4, pos := "hash.go:97", after := #[{ on := 38, ground := Go.Ground.data }, { on := 35, ground := Go.Ground.chain }, { on := 0, ground := Go.Ground.phase }, { on := 1, ground := Go.Ground.phase }, { on := 2, ground := Go.Ground.phase }, { on := 3, ground := Go.Ground.phase }, { on := 4, ground := Go.Ground.phase }, { on := 5, ground := Go.Ground.phase }, { on := 6, ground := Go.Ground.phase }, { on := 7, ground := Go.Ground.phase }, { on := 8, ground := Go.Ground.phase }, { on := 9, ground := Go.Ground.phase }, { on := 10, ground := Go.Ground.phase }, { on := 11, ground := Go.Ground.phase }, { on := 12, ground := Go.Ground.phase }, { on := 13, ground := Go.Ground.phase }, { on := 14, ground := Go.Ground.phase }, { on := 15, ground := Go.Ground.phase }, { on := 16, ground := Go.Ground.phase }, { on := 17, ground := Go.Ground.phase }, { on := 18, ground := Go.Ground.phase }, { on := 19, ground := Go.Ground.phase }, { on := 20, ground := Go.Ground.phase }, { on := 21, ground := Go.Ground.phase }, { on := 22, ground := Go.Ground.phase }, { on := 23, ground := Go.Ground.phase }, { on := 24, ground := Go.Ground.phase }, { on := 25, ground := Go.Ground.phase }, { on := 26, ground := Go.Ground.phase }, { on := 27, ground := Go.Ground.phase }, { on := 28, ground := Go.Ground.phase }, { on := 29, ground := Go.Ground.phase }, { on := 30, ground := Go.Ground.phase }, { on := 31, ground := Go.Ground.phase }, { on := 32, ground := Go.Ground.phase }, { on := 33, ground := Go.Ground.phase }, { on := 34, ground := Go.Ground.phase }, { on := 35, ground := Go.Ground.phase }, { on := 36, ground := Go.Ground.phase }, { on := 37, ground := Go.Ground.phase }, { on := 38, ground := Go.Ground.phase }], guard := none } : Oper)) (v := ?_) rfl (by kernel_rfl) (by kernel_rfl) (by kernel_rfl) (fun _ _ _ h => h) (Or.inl ⟨by rfl, ?_⟩) (by assumption) ?_
    rotate_left
    · (intro w hSw; (try dsimp only at hSw); go_simp; try with_reducible rfl)
    try simp only [Act.put, List.setIfInBounds_toArray, List.set_cons_zero, List.set_cons_succ]
    refine wpAnyH_done (by kernel_rfl) ?_ _
    refine NoPanic.normal ?_
    go_wp2_with fail; go_returns; exact ⟨rfl, k7.trans' (held2k (b := P1) (g := P2) (cs := bs D0) (ds := bs D) (by assumption))⟩
end Go.Proofs.Ytlpinbkgbnbkhaa

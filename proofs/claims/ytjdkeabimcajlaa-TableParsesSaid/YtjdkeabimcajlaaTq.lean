/- TableParses: its walk. -/
import Derived.Test.YtjdkeabimcajlaaTb
set_option linter.unusedVariables false
set_option linter.unusedSimpArgs false
namespace Go.Proofs.Ytjdkeabimcajlaa
open Go.RowKit

theorem sl_set {w : World} {e : TypeId} {g off n c j : Nat} {vs : List Value} (h : Sl w e 1 (.slice (some ⟨g, off, none⟩) n c) n vs) (hj : j < n) (v : Value) :
    Sl (w.setCell ⟨g, off + j, none⟩ v) e 1 (.slice (some ⟨g, off, none⟩) n c) n (vs.set j v) := by
  refine ⟨by rw [List.length_set]; exact h.1, ?_⟩
  rcases h.2 with ⟨h1, _⟩ | ⟨g', cap', pre, post, h1, hb, r1, r2, r3⟩
  · cases h1
  · simp only [Value.slice.injEq, Option.some.injEq, Addr.mk.injEq, and_true] at h1
    obtain ⟨⟨rfl, rfl⟩, _, rfl⟩ := h1
    have hl := h.1
    refine Or.inr ⟨g, c, pre, post, rfl, ?_, r1, by rw [List.length_set]; exact r2, r3⟩
    have := hb.set (pre.length + j) v
    have e : (pre ++ (vs ++ post)).toArray.setIfInBounds (pre.length + j) v = (pre ++ (vs.set j v ++ post)).toArray := by
      rw [List.setIfInBounds_toArray, List.set_append_right _ _ (by omega), Nat.add_sub_cancel_left, List.set_append_left _ _ (by omega)]
    rw [e] at this
    exact this
theorem sl_free {w : World} {e : TypeId} {g off n c j : Nat} {vs : List Value} (h : Sl w e 1 (.slice (some ⟨g, off, none⟩) n c) n vs) : w.frozen? ⟨g, off + j, none⟩ = false := by
  rcases h.2 with ⟨h1, _⟩ | ⟨g', cap', pre, post, h1, hb, r1, r2, r3⟩
  · cases h1
  · simp only [Value.slice.injEq, Option.some.injEq, Addr.mk.injEq, and_true] at h1
    obtain ⟨⟨rfl, rfl⟩, _, rfl⟩ := h1
    exact hb.free
theorem u8_xor_nat (a b : Nat) (ha : a < 256) (hb : b < 256) : bits .xor .u8 (a : Int) (b : Int) = ((a ^^^ b : Nat) : Int) := by
  have hx : a ^^^ b < 2 ^ 8 := Nat.xor_lt_two_pow (by omega) (by omega)
  have o8 : ∀ c : Nat, c < 256 → (BitVec.ofInt 8 (c : Int)).toNat = c := fun c hc => by
    rw [BitVec.ofInt_natCast, BitVec.toNat_ofNat]; exact Nat.mod_eq_of_lt (by omega)
  show IntKind.u8.wrap ((BitVec.ofInt 8 (a : Int) ^^^ BitVec.ofInt 8 (b : Int)).toNat : Int) = _
  rw [BitVec.toNat_xor, o8 a ha, o8 b hb]
  simp only [IntKind.wrap_u8]; omega
def turnB (x : UInt8) : UInt8 := x ^^^ 1
theorem turn_bits (x : UInt8) : bits .xor .u8 (x.toNat : Int) 1 = ((turnB x).toNat : Int) := by
  have := u8_xor_nat x.toNat 1 x.toNat_lt (by omega)
  rw [turnB, UInt8.toNat_xor]; exact this
theorem rep_bs (n : Nat) : madeCells #[.int .u8 0] n = (bs (List.replicate n 0)).toArray := by
  apply Array.ext'; rw [toList_madeCells_one]; simp [bs]
theorem rep_arr (n : Nat) : Array.replicate n (B8 0) = (bs (List.replicate n 0)).toArray := by
  apply Array.ext'; simp [bs]
theorem mk25 (n : Nat) (h : n ≤ 281474976710656) (w : World) : (Instr.makeSlice 25 (.int .i64 n) (.int .i64 n)).run Try.prog w = .ok (.slice (some ⟨w.heap.size, 0, none⟩) n n) (w.alloc (.cells (Array.replicate n (B8 0)) 5)) := by
  have h := run_make_row' (P := Try.prog) 25 5 (.int .u8 0) 1 Try.underlying25 info5 rfl .i64 .i64 n (by omega) (by omega) w
  rw [rep_bs, ← rep_arr] at h
  exact h
/-- The room, when the first i bytes are written. -/
def roomB (d : List UInt8) (i : Nat) : List UInt8 := d.take i ++ List.replicate (d.length + 5 - i) 0
theorem roomB_len {d : List UInt8} {i : Nat} (h : i ≤ d.length) : (roomB d i).length = d.length + 5 := by simp [roomB]; omega
theorem roomB_next {d : List UInt8} {i : Nat} (h : i < d.length) : (roomB d i).set i d[i] = roomB d (i + 1) := by
  have hl : (d.take i).length = i := by rw [List.length_take]; omega
  have e : d.take (i + 1) = d.take i ++ [d[i]] := by rw [List.take_add_one, List.getElem?_eq_getElem h]; rfl
  rw [roomB, List.set_append_right _ _ (by omega), hl, Nat.sub_self, show d.length + 5 - i = (d.length + 5 - (i + 1)) + 1 by omega, List.replicate_succ, List.set_cons_zero, roomB, e, List.append_assoc]
  rfl
theorem roomB_end (d : List UInt8) : roomB d d.length = d ++ List.replicate 5 0 := by
  rw [roomB, List.take_length]; congr 2; omega
theorem blk_rd0 {w : World} {H : Nat} {d z : List UInt8} (h : Blk w H (bs (d ++ z)).toArray 5) : Rd w (some ⟨H, 0, none⟩) (bs d) :=
  Rd.of_blk h 0 (fun k v hk => by rw [Nat.zero_add, bs_append]; exact (List.getElem?_append_left (List.getElem?_eq_some_iff.1 hk).1).trans hk)
theorem blk_rd1 {w : World} {H n : Nat} {d z : List UInt8} (h : Blk w H (bs (d ++ z)).toArray 5) (hn : d.length = n) : Rd w (some ⟨H, n, none⟩) (bs z) :=
  Rd.of_blk h n (fun k v hk => by rw [bs_append, List.getElem?_append_right (by rw [bs_length]; omega), bs_length, hn, Nat.add_sub_cancel_left]; exact hk)

set_option maxHeartbeats 4000000 in
set_option maxRecDepth 100000 in
theorem tableParses_walk (a : Option Addr) (n c : Nat) (d : List UInt8) (w : World) (hx : InBytes w a n c d) :
    Calls Try.prog 9 #[.slice a n c] w fun e w' => e = .returned (.bool true) ∧ Keep [] w w' := by
  have hl := hx.hlen
  have hsh := hx.short
  have HL := Lib.hid hl
  obtain ⟨rs, hrs⟩ : ∃ rs, parT d = rs := ⟨_, rfl⟩
  obtain ⟨z1, hz1⟩ : ∃ z, parC d = z := ⟨_, rfl⟩
  have P1 := Lib.hid (fun a n c W h1 h2 h3 h4 => by have := parse_give a n c d W h1 h2 h3 h4; rwa [hrs, hz1] at this : ∀ a n c W, d.length = n → (a = none → c = 0) → Rd W a (bs d) → n ≤ 140737488355328 → Calls Try.prog 32 #[.slice a n c] W (GiveP W rs z1))
  have P2 := Lib.hid (fun a n c W h1 h2 h3 h5 h4 => by have := refParse_give a n c d W h1 h2 h3 h5 h4; rwa [hrs, hz1] at this : ∀ a n c W, d.length = n → (a = none → c = 0) → Rd W a (bs d) → n ≤ c → n ≤ 140737488355328 → Calls Try.prog 33 #[.slice a n c] W (GiveP W rs z1))
  have hmk : ∀ w, (Instr.makeSlice 25 (.int .i64 ((n : Int) + 5)) (.int .i64 ((n : Int) + 5))).run Try.prog w = .ok (.slice (some ⟨w.heap.size, 0, none⟩) (n + 5) (n + 5)) (w.alloc (.cells (Array.replicate (n + 5) (B8 0)) 5)) := fun w => by
    have := mk25 (n + 5) (by omega) w
    rwa [Int.natCast_add] at this
  obtain ⟨H, hH⟩ : ∃ H, w.heap.size = H := ⟨_, rfl⟩
  obtain ⟨W1, hW1⟩ : ∃ W, w.alloc (.cells (Array.replicate (n + 5) (B8 0)) 5) = W := ⟨_, rfl⟩
  have B1 : Blk W1 H (bs (roomB d 0)).toArray 5 := by
    rw [roomB, List.take_zero, List.nil_append, hl, Nat.sub_zero, ← rep_arr, ← hW1, ← hH]; exact Blk.new w _ 5
  have kW : Keep [] w W1 := by rw [← hW1]; exact (Keep.refl [] w).alloc _
  have hHw : w.heap.size ≤ H := by omega
  have HW := Lib.hid hW1
  have HH := Lib.hid hH
  have s5 : IntKind.i64.wrap ((n : Int) + 5) = (n : Int) + 5 := IntWalk.i64_in _ (by omega)
  clear hrs hz1 hW1 hH hl
  go_enter Try.func9, Try.ntmps9
  go_upto_region 2 with (simp only [hmk, HW.out, HH.out])
  clear hmk
  go_upto_region 3 with fail
  go_loopw [4] (fun v4 wr => ∃ i : Nat, i ≤ n ∧ v4 = .int .i64 (i : Nat) ∧ Blk wr H (bs (roomB d i)).toArray 5 ∧ Keep [] w wr) (fun v4 _ => n - (intOf v4).toNat)
  case atStart => exact ⟨0, by omega, rfl, B1, kW⟩
  case round =>
    clear B1 kW
    obtain ⟨i, hi, rfl, BR, kk⟩ := hrel
    by_cases hlt : i < n
    · have hid : i < d.length := by rw [HL.out]; exact hlt
      obtain ⟨b, off, rfl, cA⟩ := (hx.rd.keep kk (fun _ => by simp)).byte hid
      have hlr : i < (bs (roomB d i)).length := by rw [bs_length, roomB_len (by omega)]; omega
      have c1 : wr.cell? ⟨H, i, none⟩ = some _ := BR.cell (by rw [List.getElem?_toArray]; exact List.getElem?_eq_getElem hlr)
      have f1 : wr.frozen? ⟨H, i, none⟩ = false := BR.free
      obtain ⟨u, hu⟩ : ∃ u, (bs (roomB d i))[i] = u := ⟨_, rfl⟩
      rw [hu] at c1
      have i0 : (0 : Int) ≤ i := by omega
      have i1 : (i : Int) < n := by omega
      have i2 : (i : Int) < n + 5 := by omega
      have BN := BR.set i (B8 d[i])
      have e1 : (bs (roomB d i)).toArray.setIfInBounds i (B8 d[i]) = (bs (roomB d (i + 1))).toArray := by
        rw [← roomB_next hid]; apply Array.ext'; simp [bs, List.map_set]
      rw [e1] at BN
      have kN := kk.set (a := ⟨H, i, none⟩) (Or.inr hHw) (B8 d[i])
      obtain ⟨y, hy⟩ : ∃ y, d[i] = y := ⟨_, rfl⟩
      rw [hy] at cA BN kN
      clear hu hlr e1 hy BR
      go_wp2_with fail
      exact ⟨⟨i + 1, by omega, by go_num, BN, kN⟩, by simp [intOf]; omega⟩
    · obtain rfl : i = n := by omega
      have BE : Blk wr H (bs (d ++ List.replicate 5 0)).toArray 5 := by have := roomB_end d; rw [HL.out] at this; rw [this] at BR; exact BR
      clear BR hi hlt
      have hxr := hx.rd.keep kk (fun _ => by simp)
      have hm1 := hx.hle
      have i2 : (0 : Int) ≤ i := by omega
      have i3 : (i : Int) ≤ i + 5 := by omega
      go_upto_region 7 with (first
        | (go_at_call 32; refine (P1.out (some ⟨H, 0, none⟩) i (i + 5) _ HL.out (by simp) (blk_rd0 BE) (by omega)).mono ?_; rintro e w4 ⟨a3, n3, c3, rfl, t3, f3, k3⟩)
        | fail)
      have hx4 := hxr.keep k3 (fun _ => by simp)
      go_upto_region 8 with (first
        | (go_at_call 33; refine (P2.out a i c _ HL.out hx.hnil hx4 hm1 (by omega)).mono ?_; rintro e w5 ⟨a4, n4, c4, rfl, t4, f4, k4⟩)
        | fail)
      have k34 := k3.trans' k4
      have kk5 := kk.trans' k34
      have t3b := t3.keep k4 (by simp)
      have hx5 := hx4.keep k4 (fun _ => by simp)
      have BE5 := BE.keep k34 (by simp)
      have rH5 := blk_rd0 BE5
      have rZ5 := blk_rd1 BE5 HL.out
      have hmk5 : ∀ w, (Instr.makeSlice 25 (.int .i64 5) (.int .i64 5)).run Try.prog w = .ok (.slice (some ⟨w.heap.size, 0, none⟩) 5 5) (w.alloc (.cells (Array.replicate 5 (B8 0)) 5)) := mk25 5 (by omega)
      have hH4 : H < wr.heap.size := BE.lt
      have zz : (z1 != z1) = false := by simp
      refine wp_region_noPanic ?_
      refine wp_region_held_drew (S := fun W' => Keep [] w5 W') (by kernel_rfl) ?_ (fun hHeld0 => ?_)
      · (try dsimp only); first | exact (Keep.refl [] w5).drew | exact kL | exact kM | exact kN | exact kO
      refine wpAnyH_take (i := 0) (oi := ({ dst := some 42, op := Go.Op.move (Go.Operand.tmp 6), type := 26, pos := "law.go:128", after := #[], guard := none } : Oper)) (v := ?_) rfl (by kernel_rfl) (by kernel_rfl) (by kernel_rfl) (fun _ _ _ h => h) (Or.inl ⟨by rfl, ?_⟩) (by assumption) ?_
      rotate_left
      · (intro w hSw; (try dsimp only at hSw); go_simp; try with_reducible rfl)
      try simp only [Act.put, List.setIfInBounds_toArray, List.set_cons_zero, List.set_cons_succ]
      refine wpAnyH_take (i := 1) (oi := ({ dst := some 43, op := Go.Op.move (Go.Operand.tmp 8), type := 3, pos := "law.go:128", after := #[], guard := none } : Oper)) (v := ?_) rfl (by kernel_rfl) (by kernel_rfl) (by kernel_rfl) (fun _ _ _ h => h) (Or.inl ⟨by rfl, ?_⟩) (by assumption) ?_
      rotate_left
      · (intro w hSw; (try dsimp only at hSw); go_simp; try with_reducible rfl)
      try simp only [Act.put, List.setIfInBounds_toArray, List.set_cons_zero, List.set_cons_succ]
      refine wpAnyH_take (i := 2) (oi := ({ dst := some 44, op := Go.Op.binOp Go.BinOp.neq 3 (Go.Operand.tmp 42) (Go.Operand.tmp 43) 3, type := 4, pos := "law.go:128", after := #[{ on := 0, ground := Go.Ground.data }, { on := 1, ground := Go.Ground.data }], guard := none } : Oper)) (v := ?_) rfl (by kernel_rfl) (by kernel_rfl) (by kernel_rfl) (fun _ _ _ h => h) (Or.inl ⟨by rfl, ?_⟩) (by assumption) ?_
      rotate_left
      · (intro w hSw; (try dsimp only at hSw); go_simp; try with_reducible rfl)
      try simp only [Act.put, List.setIfInBounds_toArray, List.set_cons_zero, List.set_cons_succ]
      refine wpAnyH_take (i := 3) (oi := ({ dst := some 45, op := Go.Op.move (Go.Operand.tmp 44), type := 4, pos := "law.go:128", after := #[{ on := 2, ground := Go.Ground.data }], guard := none } : Oper)) (v := ?_) rfl (by kernel_rfl) (by kernel_rfl) (by kernel_rfl) (fun _ _ _ h => h) (Or.inl ⟨by rfl, ?_⟩) (by assumption) ?_
      rotate_left
      · (intro w hSw; (try dsimp only at hSw); go_simp; try with_reducible rfl)
      try simp only [Act.put, List.setIfInBounds_toArray, List.set_cons_zero, List.set_cons_succ]
      refine wpAnyH_take (i := 4) (oi := ({ dst := some 46, op := Go.Op.move (Go.Operand.tmp 5), type := 22, pos := "law.go:128", after := #[{ on := 3, ground := Go.Ground.guard }], guard := some (3, false) } : Oper)) (v := ?_) rfl (by kernel_rfl) (by kernel_rfl) (by kernel_rfl) (fun _ _ _ h => h) (Or.inl ⟨by rfl, ?_⟩) (by assumption) ?_
      rotate_left
      · (intro w hSw; (try dsimp only at hSw); go_simp; try with_reducible rfl)
      try simp only [Act.put, List.setIfInBounds_toArray, List.set_cons_zero, List.set_cons_succ]
      refine wpAnyH_take (i := 5) (oi := ({ dst := some 47, op := Go.Op.move (Go.Operand.tmp 7), type := 22, pos := "law.go:128", after := #[{ on := 3, ground := Go.Ground.guard }], guard := some (3, false) } : Oper)) (v := ?_) rfl (by kernel_rfl) (by kernel_rfl) (by kernel_rfl) (fun _ _ _ h => h) (Or.inl ⟨by rfl, ?_⟩) (by assumption) ?_
      rotate_left
      · (intro w hSw; (try dsimp only at hSw); go_simp; try with_reducible rfl)
      try simp only [Act.put, List.setIfInBounds_toArray, List.set_cons_zero, List.set_cons_succ]
      refine wpAnyH_ready (rs := [6]) (by kernel_rfl) (by simp) ?_
      refine (AllReadyH.cons (o := ({ dst := some 48, op := Go.Op.call { callee := Go.Callee.value (Go.Operand.func 24), args := #[Go.Operand.tmp 46, Go.Operand.tmp 47], argTypes := #[22, 22] }, type := 4, pos := "law.go:128", after := #[{ on := 4, ground := Go.Ground.data }, { on := 5, ground := Go.Ground.data }, { on := 3, ground := Go.Ground.chain }, { on := 3, ground := Go.Ground.guard }], guard := some (3, false) } : Oper)) rfl (fun K hK => ?_) AllReadyH.nil)
      go_simp
      (refine (like_eq a3 a4 n3 c3 n4 c4 rs _ (t3b.keep ((Keep.refl [] w5).drew) (by simp)) (t4.keep ((Keep.refl [] w5).drew) (by simp))).mono ?_; rintro e w6 ⟨rfl, k6⟩; have kL := (Keep.refl [] w5).drew.trans' k6)
      go_wp2_with fail
      refine hK.out _ _ ?_ (fun hHeld1 => ?_)
      · (try dsimp only); first | exact (Keep.refl [] w5).drew | exact kL | exact kM | exact kN | exact kO
      clear hK K
      try simp only [Act.put, List.setIfInBounds_toArray, List.set_cons_zero, List.set_cons_succ]
      refine wpAnyH_take (i := 7) (oi := ({ dst := some 49, op := Go.Op.unOp Go.UnOp.not 4 (Go.Operand.tmp 48), type := 4, pos := "law.go:128", after := #[{ on := 6, ground := Go.Ground.data }, { on := 3, ground := Go.Ground.guard }], guard := some (3, false) } : Oper)) (v := ?_) rfl (by kernel_rfl) (by kernel_rfl) (by kernel_rfl) (fun _ _ _ h => h) (Or.inl ⟨by rfl, ?_⟩) (by assumption) ?_
      rotate_left
      · (intro w hSw; (try dsimp only at hSw); go_simp; try with_reducible rfl)
      try simp only [Act.put, List.setIfInBounds_toArray, List.set_cons_zero, List.set_cons_succ]
      refine wpAnyH_take (i := 8) (oi := ({ dst := some 50, op := Go.Op.pick (Go.Operand.tmp 45) (Go.Operand.const (Go.Value.bool true)) (Go.Operand.tmp 49), type := 4, pos := "law.go:128", after := #[{ on := 3, ground := Go.Ground.data }, { on := 7, ground := Go.Ground.data }], guard := none } : Oper)) (v := ?_) rfl (by kernel_rfl) (by kernel_rfl) (by kernel_rfl) (fun _ _ _ h => h) (Or.inl ⟨by rfl, ?_⟩) (by assumption) ?_
      rotate_left
      · (intro w hSw; (try dsimp only at hSw); go_simp; try with_reducible rfl)
      try simp only [Act.put, List.setIfInBounds_toArray, List.set_cons_zero, List.set_cons_succ]
      refine wpAnyH_take (i := 9) (oi := ({ dst := some 51, op := Go.Op.move (Go.Operand.tmp 50), type := 4, pos := "law.go:128", after := #[{ on := 8, ground := Go.Ground.data }, { on := 6, ground := Go.Ground.chain }], guard := none } : Oper)) (v := ?_) rfl (by kernel_rfl) (by kernel_rfl) (by kernel_rfl) (fun _ _ _ h => h) (Or.inl ⟨by rfl, ?_⟩) (by assumption) ?_
      rotate_left
      · (intro w hSw; (try dsimp only at hSw); go_simp; try with_reducible rfl)
      try simp only [Act.put, List.setIfInBounds_toArray, List.set_cons_zero, List.set_cons_succ]
      refine wpAnyH_take (i := 10) (oi := ({ dst := some 52, op := Go.Op.move (Go.Operand.tmp 3), type := 25, pos := "law.go:128", after := #[{ on := 9, ground := Go.Ground.guard }], guard := some (9, false) } : Oper)) (v := ?_) rfl (by kernel_rfl) (by kernel_rfl) (by kernel_rfl) (fun _ _ _ h => h) (Or.inl ⟨by rfl, ?_⟩) (by assumption) ?_
      rotate_left
      · (intro w hSw; (try dsimp only at hSw); go_simp; try with_reducible rfl)
      try simp only [Act.put, List.setIfInBounds_toArray, List.set_cons_zero, List.set_cons_succ]
      refine wpAnyH_take (i := 11) (oi := ({ dst := some 53, op := Go.Op.move (Go.Operand.tmp 0), type := 25, pos := "law.go:128", after := #[{ on := 9, ground := Go.Ground.guard }], guard := some (9, false) } : Oper)) (v := ?_) rfl (by kernel_rfl) (by kernel_rfl) (by kernel_rfl) (fun _ _ _ h => h) (Or.inl ⟨by rfl, ?_⟩) (by assumption) ?_
      rotate_left
      · (intro w hSw; (try dsimp only at hSw); go_simp; try with_reducible rfl)
      try simp only [Act.put, List.setIfInBounds_toArray, List.set_cons_zero, List.set_cons_succ]
      refine wpAnyH_take (i := 12) (oi := ({ dst := some 54, op := Go.Op.call { callee := Go.Callee.builtin Go.Builtin.len, args := #[Go.Operand.tmp 53], argTypes := #[25] }, type := 3, pos := "law.go:128", after := #[{ on := 11, ground := Go.Ground.data }, { on := 9, ground := Go.Ground.guard }], guard := some (9, false) } : Oper)) (v := ?_) rfl (by kernel_rfl) (by kernel_rfl) (by kernel_rfl) (fun _ _ _ h => h) (Or.inl ⟨by rfl, ?_⟩) (by assumption) ?_
      rotate_left
      · (intro w hSw; (try dsimp only at hSw); go_simp; try with_reducible rfl)
      try simp only [Act.put, List.setIfInBounds_toArray, List.set_cons_zero, List.set_cons_succ]
      refine wpAnyH_take (i := 13) (oi := ({ dst := some 55, op := Go.Op.slice 25 (Go.Operand.tmp 52) none (some (Go.Operand.tmp 54)) none, type := 25, pos := "law.go:128", after := #[{ on := 10, ground := Go.Ground.data }, { on := 12, ground := Go.Ground.data }, { on := 9, ground := Go.Ground.guard }], guard := some (9, false) } : Oper)) (v := ?_) rfl (by kernel_rfl) (by kernel_rfl) (by kernel_rfl) (fun _ _ _ h => h) (Or.inl ⟨by rfl, ?_⟩) (by assumption) ?_
      rotate_left
      · (intro w hSw; (try dsimp only at hSw); go_simp; try with_reducible rfl)
      try simp only [Act.put, List.setIfInBounds_toArray, List.set_cons_zero, List.set_cons_succ]
      refine wpAnyH_take (i := 14) (oi := ({ dst := some 56, op := Go.Op.move (Go.Operand.tmp 0), type := 25, pos := "law.go:128", after := #[{ on := 9, ground := Go.Ground.guard }], guard := some (9, false) } : Oper)) (v := ?_) rfl (by kernel_rfl) (by kernel_rfl) (by kernel_rfl) (fun _ _ _ h => h) (Or.inl ⟨by rfl, ?_⟩) (by assumption) ?_
      rotate_left
      · (intro w hSw; (try dsimp only at hSw); go_simp; try with_reducible rfl)
      try simp only [Act.put, List.setIfInBounds_toArray, List.set_cons_zero, List.set_cons_succ]
      refine wpAnyH_ready (rs := [15]) (by kernel_rfl) (by simp) ?_
      refine (AllReadyH.cons (o := ({ dst := some 57, op := Go.Op.call { callee := Go.Callee.value (Go.Operand.func 16), args := #[Go.Operand.tmp 55, Go.Operand.tmp 56], argTypes := #[25, 25] }, type := 4, pos := "law.go:128", after := #[{ on := 13, ground := Go.Ground.data }, { on := 14, ground := Go.Ground.data }, { on := 9, ground := Go.Ground.chain }, { on := 9, ground := Go.Ground.guard }], guard := some (9, false) } : Oper)) rfl (fun K hK => ?_) AllReadyH.nil)
      go_simp
      (refine (same_eq (some ⟨H, 0, none⟩) a i (i + 5) i c d _ HL.out (rH5.keep kL (fun _ => by simp)) HL.out (hx5.keep kL (fun _ => by simp)) (by omega)).mono ?_; rintro e w7 ⟨rfl, k7⟩; have kM := kL.trans' k7)
      go_wp2_with fail
      refine hK.out _ _ ?_ (fun hHeld2 => ?_)
      · (try dsimp only); first | exact (Keep.refl [] w5).drew | exact kL | exact kM | exact kN | exact kO
      clear hK K
      try simp only [Act.put, List.setIfInBounds_toArray, List.set_cons_zero, List.set_cons_succ]
      refine wpAnyH_take (i := 16) (oi := ({ dst := some 58, op := Go.Op.unOp Go.UnOp.not 4 (Go.Operand.tmp 57), type := 4, pos := "law.go:128", after := #[{ on := 15, ground := Go.Ground.data }, { on := 9, ground := Go.Ground.guard }], guard := some (9, false) } : Oper)) (v := ?_) rfl (by kernel_rfl) (by kernel_rfl) (by kernel_rfl) (fun _ _ _ h => h) (Or.inl ⟨by rfl, ?_⟩) (by assumption) ?_
      rotate_left
      · (intro w hSw; (try dsimp only at hSw); go_simp; try with_reducible rfl)
      try simp only [Act.put, List.setIfInBounds_toArray, List.set_cons_zero, List.set_cons_succ]
      refine wpAnyH_take (i := 17) (oi := ({ dst := some 59, op := Go.Op.pick (Go.Operand.tmp 51) (Go.Operand.const (Go.Value.bool true)) (Go.Operand.tmp 58), type := 4, pos := "law.go:128", after := #[{ on := 9, ground := Go.Ground.data }, { on := 16, ground := Go.Ground.data }], guard := none } : Oper)) (v := ?_) rfl (by kernel_rfl) (by kernel_rfl) (by kernel_rfl) (fun _ _ _ h => h) (Or.inl ⟨by rfl, ?_⟩) (by assumption) ?_
      rotate_left
      · (intro w hSw; (try dsimp only at hSw); go_simp; try with_reducible rfl)
      try simp only [Act.put, List.setIfInBounds_toArray, List.set_cons_zero, List.set_cons_succ]
      refine wpAnyH_take (i := 18) (oi := ({ dst := some 60, op := Go.Op.move (Go.Operand.tmp 59), type := 4, pos := "law.go:128", after := #[{ on := 17, ground := Go.Ground.data }, { on := 15, ground := Go.Ground.chain }], guard := none } : Oper)) (v := ?_) rfl (by kernel_rfl) (by kernel_rfl) (by kernel_rfl) (fun _ _ _ h => h) (Or.inl ⟨by rfl, ?_⟩) (by assumption) ?_
      rotate_left
      · (intro w hSw; (try dsimp only at hSw); go_simp; try with_reducible rfl)
      try simp only [Act.put, List.setIfInBounds_toArray, List.set_cons_zero, List.set_cons_succ]
      refine wpAnyH_take (i := 19) (oi := ({ dst := some 61, op := Go.Op.move (Go.Operand.tmp 3), type := 25, pos := "law.go:128", after := #[{ on := 18, ground := Go.Ground.guard }], guard := some (18, false) } : Oper)) (v := ?_) rfl (by kernel_rfl) (by kernel_rfl) (by kernel_rfl) (fun _ _ _ h => h) (Or.inl ⟨by rfl, ?_⟩) (by assumption) ?_
      rotate_left
      · (intro w hSw; (try dsimp only at hSw); go_simp; try with_reducible rfl)
      try simp only [Act.put, List.setIfInBounds_toArray, List.set_cons_zero, List.set_cons_succ]
      refine wpAnyH_take (i := 20) (oi := ({ dst := some 62, op := Go.Op.move (Go.Operand.tmp 0), type := 25, pos := "law.go:128", after := #[{ on := 18, ground := Go.Ground.guard }], guard := some (18, false) } : Oper)) (v := ?_) rfl (by kernel_rfl) (by kernel_rfl) (by kernel_rfl) (fun _ _ _ h => h) (Or.inl ⟨by rfl, ?_⟩) (by assumption) ?_
      rotate_left
      · (intro w hSw; (try dsimp only at hSw); go_simp; try with_reducible rfl)
      try simp only [Act.put, List.setIfInBounds_toArray, List.set_cons_zero, List.set_cons_succ]
      refine wpAnyH_take (i := 21) (oi := ({ dst := some 63, op := Go.Op.call { callee := Go.Callee.builtin Go.Builtin.len, args := #[Go.Operand.tmp 62], argTypes := #[25] }, type := 3, pos := "law.go:128", after := #[{ on := 20, ground := Go.Ground.data }, { on := 18, ground := Go.Ground.guard }], guard := some (18, false) } : Oper)) (v := ?_) rfl (by kernel_rfl) (by kernel_rfl) (by kernel_rfl) (fun _ _ _ h => h) (Or.inl ⟨by rfl, ?_⟩) (by assumption) ?_
      rotate_left
      · (intro w hSw; (try dsimp only at hSw); go_simp; try with_reducible rfl)
      try simp only [Act.put, List.setIfInBounds_toArray, List.set_cons_zero, List.set_cons_succ]
      refine wpAnyH_take (i := 22) (oi := ({ dst := some 64, op := Go.Op.slice 25 (Go.Operand.tmp 61) (some (Go.Operand.tmp 63)) none none, type := 25, pos := "law.go:128", after := #[{ on := 19, ground := Go.Ground.data }, { on := 21, ground := Go.Ground.data }, { on := 18, ground := Go.Ground.guard }], guard := some (18, false) } : Oper)) (v := ?_) rfl (by kernel_rfl) (by kernel_rfl) (by kernel_rfl) (fun _ _ _ h => h) (Or.inl ⟨by rfl, ?_⟩) (by assumption) ?_
      rotate_left
      · (intro w hSw; (try dsimp only at hSw); go_simp; try with_reducible rfl)
      try simp only [Act.put, List.setIfInBounds_toArray, List.set_cons_zero, List.set_cons_succ]
      refine wpAnyH_ready (rs := [23]) (by kernel_rfl) (by simp) ?_
      refine (AllReadyH.cons (o := ({ dst := some 65, op := Go.Op.makeSlice 25 (Go.Operand.const (Go.Value.int Go.IntKind.i64 5)) (Go.Operand.const (Go.Value.int Go.IntKind.i64 5)), type := 25, pos := "law.go:128", after := #[{ on := 18, ground := Go.Ground.guard }], guard := some (18, false) } : Oper)) rfl (fun K hK => ?_) AllReadyH.nil)
      (go_simp; have kN : Keep [] w5 (w7.alloc (.cells (Array.replicate 5 (B8 0)) 5)) := kM.alloc _; have rM : Rd (w7.alloc (.cells (Array.replicate 5 (B8 0)) 5)) (some ⟨w7.heap.size, 0, none⟩) (bs (List.replicate 5 0)) := Rd.made w7 _ 5 (0, 0) _ _ rfl (by simp [bs]))
      refine hK.out _ _ ?_ (fun hHeld3 => ?_)
      · (try dsimp only); first | exact (Keep.refl [] w5).drew | exact kL | exact kM | exact kN | exact kO
      clear hK K
      try simp only [Act.put, List.setIfInBounds_toArray, List.set_cons_zero, List.set_cons_succ]
      refine wpAnyH_ready (rs := [24]) (by kernel_rfl) (by simp) ?_
      refine (AllReadyH.cons (o := ({ dst := some 66, op := Go.Op.call { callee := Go.Callee.value (Go.Operand.func 16), args := #[Go.Operand.tmp 64, Go.Operand.tmp 65], argTypes := #[25, 25] }, type := 4, pos := "law.go:128", after := #[{ on := 22, ground := Go.Ground.data }, { on := 23, ground := Go.Ground.data }, { on := 18, ground := Go.Ground.chain }, { on := 18, ground := Go.Ground.guard }], guard := some (18, false) } : Oper)) rfl (fun K hK => ?_) AllReadyH.nil)
      go_simp
      (refine (same_eq (some ⟨H, i, none⟩) (some ⟨w7.heap.size, 0, none⟩) 5 5 5 5 (List.replicate 5 0) _ rfl (rZ5.keep kN (fun _ => by simp)) rfl rM (by omega)).mono ?_; rintro e w9 ⟨rfl, k9⟩; have kO := kN.trans' k9)
      go_wp2_with fail
      refine hK.out _ _ ?_ (fun hHeld4 => ?_)
      · (try dsimp only); first | exact (Keep.refl [] w5).drew | exact kL | exact kM | exact kN | exact kO
      clear hK K
      try simp only [Act.put, List.setIfInBounds_toArray, List.set_cons_zero, List.set_cons_succ]
      refine wpAnyH_take (i := 25) (oi := ({ dst := some 67, op := Go.Op.unOp Go.UnOp.not 4 (Go.Operand.tmp 66), type := 4, pos := "law.go:128", after := #[{ on := 24, ground := Go.Ground.data }, { on := 18, ground := Go.Ground.guard }], guard := some (18, false) } : Oper)) (v := ?_) rfl (by kernel_rfl) (by kernel_rfl) (by kernel_rfl) (fun _ _ _ h => h) (Or.inl ⟨by rfl, ?_⟩) (by assumption) ?_
      rotate_left
      · (intro w hSw; (try dsimp only at hSw); go_simp; try with_reducible rfl)
      try simp only [Act.put, List.setIfInBounds_toArray, List.set_cons_zero, List.set_cons_succ]
      refine wpAnyH_take (i := 26) (oi := ({ dst := some 68, op := Go.Op.pick (Go.Operand.tmp 60) (Go.Operand.const (Go.Value.bool true)) (Go.Operand.tmp 67), type := 4, pos := "law.go:128", after := #[{ on := 18, ground := Go.Ground.data }, { on := 25, ground := Go.Ground.data }], guard := none } : Oper)) (v := ?_) rfl (by kernel_rfl) (by kernel_rfl) (by kernel_rfl) (fun _ _ _ h => h) (Or.inl ⟨by rfl, ?_⟩) (by assumption) ?_
      rotate_left
      · (intro w hSw; (try dsimp only at hSw); go_simp; try with_reducible rfl)
      try simp only [Act.put, List.setIfInBounds_toArray, List.set_cons_zero, List.set_cons_succ]
      refine wpAnyH_done (by kernel_rfl) ?_ _
      refine NoPanic.normal ?_
      skip
      have t39 := t3b.keep kO (by simp)
      have t49 := t4.keep kO (by simp)
      have B9 := BE5.keep kO (by simp)
      have kk9 := kk5.trans' kO
      have hx9 := hxr.keep (k34.trans' kO) (fun _ => by simp)
      have hwz : w5.heap.size ≤ w9.heap.size := kO.size
      have hw45 : w4.heap.size ≤ w5.heap.size := k4.size
      have hwr4 : wr.heap.size ≤ w4.heap.size := k3.size
      clear k6 kL k7 kM kN rM k9 kO hHeld0 hHeld1 hHeld2 hHeld3 hHeld4 hmk5 rH5 rZ5 BE BE5 t3 t3b t4 hx4 hx5 kk k3 k4 k34 kk5 hxr
      by_cases h0 : i = 0
      · have q : ((i : Int) == 0) = true := by simp [h0]
        have q2 : (i : Int) = 0 := by omega
        clear h0
        go_wp2_with (first
          | (go_at_call 21; refine (awake_any _).mono ?_; rintro e wH ⟨rfl, kH⟩)
          | fail)
        go_returns
        exact ⟨rfl, kk9.trans' kH⟩
      have q : ((i : Int) == 0) = false := by simp [h0]
      have q2 : ¬ (i : Int) = 0 := by omega
      have hid : i - 1 < d.length := by rw [HL.out]; omega
      obtain ⟨y, hy⟩ : ∃ y, d[i - 1] = y := ⟨_, rfl⟩
      obtain ⟨tw, htw⟩ : ∃ tw, d.set (i - 1) (turnB y) = tw := ⟨_, rfl⟩
      have htl : tw.length = i := by rw [← htw, List.length_set, HL.out]
      obtain ⟨qs, hqs⟩ : ∃ rs, parT tw = rs := ⟨_, rfl⟩
      obtain ⟨z2, hz2⟩ : ∃ z, parC tw = z := ⟨_, rfl⟩
      have P3 := Lib.hid (fun a n c W h1 h2 h3 h4 => by have := parse_give a n c tw W h1 h2 h3 h4; rwa [hqs, hz2] at this : ∀ a n c W, tw.length = n → (a = none → c = 0) → Rd W a (bs tw) → n ≤ 140737488355328 → Calls Try.prog 32 #[.slice a n c] W (GiveP W qs z2))
      have P4 := Lib.hid (fun a n c W h1 h2 h3 h5 h4 => by have := refParse_give a n c tw W h1 h2 h3 h5 h4; rwa [hqs, hz2] at this : ∀ a n c W, tw.length = n → (a = none → c = 0) → Rd W a (bs tw) → n ≤ c → n ≤ 140737488355328 → Calls Try.prog 33 #[.slice a n c] W (GiveP W qs z2))
      have hset : (bs d).set (i - 1) (B8 (turnB y)) = bs tw := by rw [← htw]; simp [bs, List.map_set]
      have hset5 : (bs (d ++ List.replicate 5 0)).toArray.setIfInBounds (i - 1) (B8 (turnB y)) = (bs (tw ++ List.replicate 5 0)).toArray := by
        rw [← htw]; apply Array.ext'
        rw [Array.toList_setIfInBounds, List.toList_toArray, bs_append, List.set_append_left _ _ (by rw [bs_length]; exact hid), bs_append]
        simp [bs, List.map_set]
      have HT := Lib.hid (And.intro htl (And.intro hset hset5))
      have HY := Lib.hid (show (bs d)[i - 1]? = some (B8 y) by rw [← hy]; exact bs_get d _ hid)
      have HD1 := Lib.hid hid
      have zz2 : (z2 == z2) = true := by simp
      clear hy htw htl hqs hz2 hset hset5 hid
      have S0 : Sl (w9.alloc (.cells #[] 5)) 5 1 (.slice (some ⟨w9.heap.size, 0, none⟩) 0 0) 0 [] := Sl.made w9 5 1 #[] 0 _ rfl rfl (by simp [maxLen])
      have k0 : Keep [] w9 (w9.alloc (.cells #[] 5)) := (Keep.refl [] w9).alloc _
      have f0 : Fr w9 [] (blks (.slice (some ⟨w9.heap.size, 0, none⟩) 0 0)) := Fr.new (w' := w9) (by intro b hb; simp [blks, Value.ownBlock] at hb; omega)
      obtain ⟨G, hG⟩ : ∃ G, w9.heap.size = G := ⟨_, rfl⟩
      obtain ⟨wA, hwA⟩ : ∃ w0, w9.alloc (.cells #[] 5) = w0 := ⟨_, rfl⟩
      rw [hG] at S0 f0
      rw [hwA] at S0 k0
      have hxA := hx9.keep k0 (fun _ => by simp)
      have HG := Lib.hid hG
      have HWA := Lib.hid hwA
      have HLB := Lib.hid (show (bs d).length = i * 1 by rw [bs_length, HL.out]; omega)
      clear hG hwA
      go_upto_region 13 with (first
        | (at_builtin; go_must (refine wpList_appendN rfl (.tmp 73) (.tmp 74) 25 rfl 5 (.int .u8 0) 1 1 Try.underlying25 info5 rfl (by omega) (.slice (some ⟨G, 0, none⟩) 0 0) 0 [] rfl S0 a i c (bs d) rfl HLB.out hx.hnil hxA (bs_one d) (by simp only [maxLen]; omega) (by omega) ?_; intro a9 c9 wB hs9 hk9 hf9; rw [Nat.zero_add, List.nil_append] at hs9; rw [Nat.zero_add] at hf9))
        | (simp only [HWA.out, HG.out])
        | fail)
      have f9 : Fr w9 [] (blks (.slice a9 i c9)) := f0.trans hf9 k0.size
      have kB : Keep [] w9 wB := k0.trans hk9 (fun b hb => by rcases f0 b hb with h | h; cases h; exact Or.inr h)
      clear S0 k0 f0 hxA hk9 hf9 hx9
      obtain ⟨g9, o9, rfl⟩ : ∃ g o, a9 = some ⟨g, o, none⟩ := by
        rcases Sl.parts hs9 with ⟨h6, h7⟩ | h6
        · have := hs9.use.2.2.2.1; omega
        · exact h6
      have hg9 : w9.heap.size ≤ g9 := fr_old f9 g9 (by simp [blks, Value.ownBlock])
      have hc9 := hs9.use.2.2.2.1
      have hc9m : c9 ≤ 9223372036854775807 := by have := hs9.use.2.2.2.2; simpa [maxLen] using this
      have t3B := t39.keep kB (by simp)
      have t4B := t49.keep kB (by simp)
      have BB := B9.keep kB (by simp)
      have kkB := kk9.trans' kB
      have cell : wB.cell? ⟨g9, o9 + (i - 1), none⟩ = some (B8 y) := by
        rcases hs9.use.2.2.1 with h2 | ⟨b', o', e, h2⟩
        · have := congrArg List.length h2; rw [bs_length, HL.out] at this; exact absurd this h0
        · cases e; exact h2 _ _ HY.out
      have free : wB.frozen? ⟨g9, o9 + (i - 1), none⟩ = false := sl_free hs9
      have hb := turn_bits y
      have i5 : 0 ≤ (i : Int) - 1 := by omega
      have i6 : (i : Int) - 1 < i := by omega
      have i7 : IntKind.i64.wrap ((i : Int) - 1) = (i : Int) - 1 := IntWalk.i64_in _ (by omega)
      have i8 : ((i : Int) - 1).toNat = i - 1 := by omega
      have i9 : (i : Int) - 1 < i + 5 := by omega
      go_upto_region 14 with fail
      have sC := sl_set hs9 (j := i - 1) (by omega) (B8 (turnB y))
      rw [HT.out.2.1] at sC
      have kC : Keep [g9] wB (wB.setCell ⟨g9, o9 + (i - 1), none⟩ (B8 (turnB y))) := Keep.set_one wB ⟨g9, o9 + (i - 1), none⟩ _
      obtain ⟨wC, hwC⟩ : ∃ W, wB.setCell ⟨g9, o9 + (i - 1), none⟩ (B8 (turnB y)) = W := ⟨_, rfl⟩
      rw [hwC] at sC kC ⊢
      have hgH : H ≠ g9 := by have := B9.lt; omega
      have BC := BB.keep kC (by simp only [List.mem_singleton]; exact hgH)
      have n3g : rs ≠ [] → ablk a3 ∉ [g9] := fun e => by have := t39.lt e; simp only [List.mem_singleton]; omega
      have n4g : rs ≠ [] → ablk a4 ∉ [g9] := fun e => by have := t49.lt e; simp only [List.mem_singleton]; omega
      have t3C := t3B.keep kC n3g
      have t4C := t4B.keep kC n4g
      have kkC := kkB.trans kC (fun b hb => by simp only [List.mem_singleton] at hb; subst hb; have := kk9.size; exact Or.inr (by omega))
      have cC : wC.cell? ⟨g9, o9 + (i - 1), none⟩ = some (B8 (turnB y)) := by
        rcases sC.use.2.2.1 with h2 | ⟨b', o', e, h2⟩
        · have := congrArg List.length h2; rw [bs_length, HT.out.1] at this; exact absurd this h0
        · cases e
          refine h2 _ _ ?_
          rw [← HT.out.2.1, List.getElem?_set_self (by rw [bs_length]; exact HD1.out)]
      have hlr : i - 1 < (bs (d ++ List.replicate 5 0)).length := by have := HL.out; rw [bs_length, List.length_append]; omega
      have c1 : wC.cell? ⟨H, i - 1, none⟩ = some _ := BC.cell (by rw [List.getElem?_toArray]; exact List.getElem?_eq_getElem hlr)
      have f1 : wC.frozen? ⟨H, i - 1, none⟩ = false := BC.free
      obtain ⟨u, hu⟩ : ∃ u, (bs (d ++ List.replicate 5 0))[i - 1] = u := ⟨_, rfl⟩
      rw [hu] at c1
      clear hu hlr cell free hwC kC kB t3B t4B BB hs9 kkB hb
      obtain ⟨y2, hy2⟩ : ∃ y2, turnB y = y2 := ⟨_, rfl⟩
      rw [hy2] at cC ⊢
      have HY2 := Lib.hid hy2
      clear hy2
      go_upto_region 15 with fail
      have BD := BC.set (i - 1) (B8 y2)
      rw [← HY2.out, HT.out.2.2, HY2.out] at BD
      have kD : Keep [H] wC (wC.setCell ⟨H, i - 1, none⟩ (B8 y2)) := Keep.set_one wC ⟨H, i - 1, none⟩ _
      obtain ⟨wD, hwD⟩ : ∃ W, wC.setCell ⟨H, i - 1, none⟩ (B8 y2) = W := ⟨_, rfl⟩
      rw [hwD] at BD kD ⊢
      have sD := sC.keep kD (fun b hb => by have := fr_old f9 b hb; have := B9.lt; simp only [List.mem_singleton]; omega)
      have t3D := t3C.keep kD (fun e => ablk_ne t3C e f3 hH4)
      have t4D := t4C.keep kD (fun e => ablk_ne t4C e f4 (by omega))
      have kkD := kkC.trans kD (fun b hb => by simp only [List.mem_singleton] at hb; subst hb; exact Or.inr hHw)
      clear hwD kD kkC t3C t4C sC BC cC c1 f1
      go_upto_region 16 with (first
        | (go_at_call 32; refine (P3.out (some ⟨H, 0, none⟩) i (i + 5) _ HT.out.1 (by simp) (blk_rd0 BD) (by omega)).mono ?_; rintro e wE ⟨a5, n5, c5, rfl, t5, f5, k5⟩)
        | fail)
      have sE := sD.keep k5 (by simp)
      go_upto_region 17 with (first
        | (go_at_call 33; refine (P4.out (some ⟨g9, o9, none⟩) i c9 _ HT.out.1 (by simp) sE.rd hc9 (by omega)).mono ?_; rintro e wF ⟨a6, n6, c6, rfl, t6, f6, k6⟩)
        | fail)
      have k56 := k5.trans' k6
      have t5F := t5.keep k6 (by simp)
      have t3F := t3D.keep k56 (by simp)
      have t4F := t4D.keep k56 (by simp)
      have BF := BD.keep k56 (by simp)
      have sF := sE.keep k6 (by simp)
      have kkF := kkD.trans' k56
      go_wp2_with (first
        | (go_at_call 24; refine (like_eq a3 a4 n3 c3 n4 c4 rs _ (t3F.keep kG (by simp)) (t4F.keep kG (by simp))).mono ?_; rintro e wH ⟨rfl, kH⟩; have kGH := kG.trans' kH)
        | (go_at_call 24; refine (like_eq a5 a6 n5 c5 n6 c6 qs _ t5F t6).mono ?_; rintro e wG ⟨rfl, kG⟩)
        | (go_at_call 16; refine (same_eq (some ⟨H, 0, none⟩) (some ⟨g9, o9, none⟩) i (i + 5) i c9 tw _ HT.out.1 (blk_rd0 (BF.keep kGH (by simp))) HT.out.1 (sF.keep kGH (by simp)).rd (by omega)).mono ?_; rintro e wI ⟨rfl, kI⟩)
        | (go_at_call 21; refine (awake_any _).mono ?_; rintro e wJ ⟨rfl, kJ⟩)
        | fail)
      go_returns
      exact ⟨rfl, ((kkF.trans' kGH).trans' kI).trans' kJ⟩
end Go.Proofs.Ytjdkeabimcajlaa

/- Encode of the program. -/
import Derived.Test.YtgeihjpifbkpkaaDoorEo
set_option linter.unusedVariables false
set_option linter.unusedSimpArgs false
namespace Go.Proofs.YtgeihjpifbkpkaaDoor
open Go.RowKit

theorem WrAt.new (w : World) (b : Nat) (hb : b = w.heap.size) : WrAt (w.alloc (.cells #[.int .i64 0, .int .i64 0, .slice none 0 0] 59)) b [b] false [] :=
  ⟨0, 0, _, Blk.new' w _ 59 hb, Sl.nil _ _ _, rfl, rfl, by simp [blks, Value.ownBlock]⟩
theorem bytes_of (w : World) (s : ByteArray) : (convert 9 26 (.string s)).run Tryd.prog w = .ok (.slice (some ⟨w.heap.size, 0, none⟩) s.size (grownCap w s.size 0 5))
    (w.drew.alloc (.cells (bytesRow s (grownCap w s.size 0 5)) 5 ((bytesRow s (grownCap w s.size 0 5)).size, (bytesRow s (grownCap w s.size 0 5)).size + 1))) :=
  run_bytes_of_string w 9 26 5 s Tryd.underlying9 Tryd.underlying26 Tryd.underlying5
theorem rd_row (w : World) (s : ByteArray) (cap b : Nat) (f : Nat × Nat) (hb : b = w.heap.size) : Rd (w.alloc (.cells (bytesRow s cap) 5 f)) (some ⟨b, 0, none⟩) (bs s.data.toList) := by
  subst hb
  have hb : (w.alloc (.cells (bytesRow s cap) 5 f)).heap[w.heap.size]? = some (.cells (bytesRow s cap) 5 f) := heap_alloc_new w _
  refine Or.inr ⟨w.heap.size, 0, rfl, fun k v hk => ?_⟩
  rw [Nat.zero_add, cell_of_row _ _ _ _ _ _ hb]
  have hl := (List.getElem?_eq_some_iff.1 hk).1
  rw [str_len] at hl
  have hz : k < (s.data.map (fun b => Value.int .u8 b.toNat)).size := by rw [Array.size_map]; exact hl
  unfold bytesRow
  rw [Array.getElem?_append_left hz]
  have : (bs s.data.toList)[k]? = (s.data.map (fun b => Value.int .u8 b.toNat))[k]? := by
    simp [bs]
  rw [← this]; exact hk

set_option maxHeartbeats 8000000 in
set_option maxRecDepth 100000 in
theorem encode_any (a : Option Addr) (n c : Nat) (l : List Ent) (w : World) (hx : EsIn w a n c l) (hT : Tabs w) :
    Calls Tryd.prog 14 #[.slice a n c] w (GiveE w (encX l) (encC l)) := by
  have hl := hx.hlen
  have HL := Lib.hid hl
  obtain ⟨xs, hxs⟩ : ∃ xs, encX l = xs := ⟨_, rfl⟩
  obtain ⟨z, hz⟩ : ∃ z, encC l = z := ⟨_, rfl⟩
  rw [hxs, hz]
  have HNO : Hid (isT l = false → xs = [] ∧ z = 70) := Lib.hid (fun h => by rw [← hxs, ← hz, encX, encC, h]; exact ⟨rfl, rfl⟩)
  have HYES : Hid (isT l = true → xs = encR l ∧ z = 0) := Lib.hid (fun h => by rw [← hxs, ← hz, encX, encC, h]; exact ⟨rfl, rfl⟩)
  clear hxs hz hl
  by_cases h32 : 32 < n
  · have i1 : (32 : Int) < n := by omega
    go_enter Tryd.func14, Tryd.ntmps14
    go_wp2_with fail
    go_returns
    obtain ⟨rfl, rfl⟩ := HNO.out (isT_short (by rw [HL.out]; omega))
    exact GiveE.none (Keep.refl _ _)
  have i1 : ¬ (32 : Int) < n := by omega
  obtain ⟨N, hN, hso⟩ := size37
  have HN := Lib.hid hN
  clear hN
  go_enter Tryd.func14, Tryd.ntmps14
  go_upto_region 4 with fail
  have kP : Keep [] w (w.alloc (.cells #[.int .i64 0, .int .i64 0, .slice none 0 0] 59)) := (Keep.refl [] w).alloc _
  have hW := WrAt.new w _ rfl
  obtain ⟨W1, hW1⟩ : ∃ W, w.alloc (.cells #[.int .i64 0, .int .i64 0, .slice none 0 0] 59) = W := ⟨_, rfl⟩
  obtain ⟨P, hP⟩ : ∃ P, w.heap.size = P := ⟨_, rfl⟩
  have pw : w.heap.size ≤ P := by omega
  rw [hW1] at kP hW ⊢
  rw [hP] at hW ⊢
  have hfix := fixed_any P [P] false [] 84 1 W1 hW (by decide) (by simp)
  rw [show isFix 84 1 = true by decide] at hfix
  simp only [Bool.not_true, Bool.or_false, putD, Bool.false_eq_true, if_false, List.nil_append] at hfix
  rw [show fixB (84 : Int).toNat (1 : Int).toNat = [84] by decide] at hfix
  have HFIX := Lib.hid hfix
  clear hfix hW1 hP
  go_upto_region 5 with (first
    | (go_at_call 31; refine HFIX.out.mono ?_; rintro e w2 ⟨rfl, ⟨S2, hW2, hf2⟩, hk2⟩)
    | fail)
  have k2 : Keep [] w w2 := kP.trans hk2 (fun b hb => by simp only [List.mem_singleton] at hb; subst hb; exact Or.inr pw)
  have f2 : Fr w [] S2 := fun b hb => by
    rcases hf2 b hb with h | h
    · simp only [List.mem_singleton] at h; subst h; exact Or.inr pw
    · exact Or.inr (Nat.le_trans kP.size h)
  have hi : isNum (n : Int) = true := by simp [isNum]; omega
  have hnum := number_any P S2 false [84] n w2 hW2 (by simp [Lit.wf, IntKind.min, IntKind.max, IntKind.signed, IntKind.bits]; omega) (by simp)
  rw [hi] at hnum
  simp only [Bool.not_true, Bool.or_false, Int.toNat_natCast, putD, Bool.false_eq_true, if_false] at hnum
  rw [show ([84] : List UInt8) ++ numB n = encTo l 0 by rw [numB_small (by omega), encTo, HL.out, List.take_zero, List.flatMap_nil, List.append_nil]; rfl] at hnum
  have HNUM := Lib.hid hnum
  clear hnum hi hf2 hk2 hW HFIX hW2 kP
  go_upto_region 7 with (first
    | (go_at_call 32; refine HNUM.out.mono ?_; rintro e w3 ⟨rfl, ⟨S3, hW3, hf3⟩, hk3⟩)
    | fail)
  have k3 : Keep [] w w3 := k2.trans hk3 (fun b hb => by rcases f2 b hb with h | h; cases h; exact Or.inr h)
  have f3 : Fr w [] S3 := f2.trans hf3 k2.size
  clear HNUM hf3 hk3 f2 k2
  go_loopw [5, 6, 18] (fun _ _ v18 wr => ∃ (i : Nat) (S : List Nat), i ≤ n ∧ v18 = .int .i64 (i : Nat) ∧ Hid (esTo l i = true) ∧ WrAt wr P S false (encTo l i) ∧ Fr w [] S ∧ Keep [] w wr) (fun _ _ v18 _ => n - (intOf v18).toNat)
  case atStart => exact ⟨0, S3, by omega, rfl, Lib.hid (esTo_zero l), hW3, f3, k3⟩
  case round =>
    clear hW3 f3 k3
    obtain ⟨i, S, hi, rfl, HO, hWr, hF, kk⟩ := hrel
    by_cases hlt : i < n
    · obtain ⟨x, b, off, ex, rfl, rx⟩ := (hx.keep kk (by simp)).at hlt
      have i0 : (0 : Int) ≤ i := by omega
      have i2 : (i : Int) < n := by omega
      have hnm := hx.names x (List.mem_of_getElem? ex)
      have HEX := Lib.hid ex
      rw [HN.out] at rx
      have HX34 := Lib.hid (show x.cells.toArray.size = 34 by simpa using x.len)
      clear ex
      go_upto_region 9 with (first
        | (refine wpList_load_mid rfl 37 (.tmp 21) rfl b (off + i * N) rfl x.cells _ rx Tryd.underlying37 rfl (hi37 x) ?_)
        | (refine wpList_store_last rfl 37 (.tmp 6) (.tmp 22) rfl _ _ x.cells.toArray rfl rfl rfl (by rw [HX34.out]; rfl) (by rw [HX34.out]; rfl) (ent_all x) ?_)
        | fail)
      have BX : Blk (wr.alloc (.cells x.cells.toArray 37)) wr.heap.size x.cells.toArray 37 := Blk.new _ _ _
      have k1 : Keep [] wr (wr.alloc (.cells x.cells.toArray 37)) := (Keep.refl [] wr).alloc _
      have hSlt := hWr.lt
      have hPS := hWr.self
      obtain ⟨W4, hW4⟩ : ∃ W, wr.alloc (.cells x.cells.toArray 37) = W := ⟨_, rfl⟩
      obtain ⟨px, hpx⟩ : ∃ P, wr.heap.size = P := ⟨_, rfl⟩
      have hs4 : W4.heap.size = px + 1 := by rw [← hW4, ← hpx]; simp
      rw [hW4] at k1 BX ⊢
      rw [hpx] at BX hSlt ⊢
      have hpS : px ∉ S := fun h => by have := hSlt px h; omega
      have hpP : px ≠ P := fun h => hpS (h ▸ hPS)
      clear hW4 hpx hSlt
      have kk4 := kk.trans' k1
      have hWr4 := hWr.keep k1 (by simp)
      have rX := rangeAt_of_blk BX
      obtain ⟨kd, hkd⟩ : ∃ k, x.kind = k := ⟨_, rfl⟩
      have ck := rangeAt_kind rX
      have cn := rangeAt_name rX
      rw [hkd] at ck
      have HKD := Lib.hid hkd
      have CV0 : ∀ W, Keep [] w W → Calls Tryd.prog 11 #[.string x.name] W fun e w' => e = .returned (.bool (nameB x.name)) ∧ Keep [] W w' := fun W hkW => valid_any x.name W hnm (hT.keep hkW)
      have HLT := Lib.hid hlt
      clear hkd rx hWr hs4
      cases hv : nameB x.name with
      | false =>
        rw [hv] at CV0
        have CV := Lib.hid CV0
        have HV := Lib.hid hv
        clear CV0 hv
        have hS : SE W4 px x.name kd px 0 x.name W4 := ⟨cn, by simpa using ck, cn, Keep.refl _ _⟩
        obtain ⟨tb, htb⟩ : ∃ t, px = t := ⟨_, rfl⟩
        obtain ⟨tO, hto⟩ : ∃ t, (0 : Nat) = t := ⟨_, rfl⟩
        obtain ⟨tY, hty⟩ : ∃ t, x.name = t := ⟨_, rfl⟩
        replace hS : SE W4 px x.name kd tb tO tY W4 := by rw [← htb, ← hto, ← hty]; exact hS
        clear htb hto hty
        refine wp_region_noPanic ?_
        refine wp_region_held_drew (S := SE W4 px x.name kd tb tO tY) (by kernel_rfl) ?_ (fun hHeld0 => ?_)
        · (try dsimp only); first | exact SE.step hS ((Keep.refl [] _).drew) | exact SE.step (by assumption) hk
        refine wpAnyH_take (i := 0) (oi := ({ dst := some 23, op := Go.Op.fieldAddr 37 (Go.Operand.tmp 6) 0, type := 0, pos := "tree.go:38", after := #[], guard := none } : Oper)) (v := ?_) rfl (by kernel_rfl) (by kernel_rfl) (by kernel_rfl) (fun _ _ _ h => h) (Or.inl ⟨by rfl, ?_⟩) (by assumption) ?_
        rotate_left
        · (intro w hSw; (try dsimp only at hSw); go_simp; try with_reducible rfl)
        try simp only [Act.put, List.setIfInBounds_toArray, List.set_cons_zero, List.set_cons_succ]
        refine wpAnyH_take (i := 1) (oi := ({ dst := some 24, op := Go.Op.load 9 (Go.Operand.tmp 23), type := 9, pos := "tree.go:38", after := #[{ on := 0, ground := Go.Ground.data }], guard := none } : Oper)) (v := ?_) rfl (by kernel_rfl) (by kernel_rfl) (by kernel_rfl) (fun _ _ _ h => h) (Or.inl ⟨by rfl, ?_⟩) (by assumption) ?_
        rotate_left
        · (intro w hSw; (try dsimp only at hSw); have c1 := hSw.1; go_simp; try with_reducible rfl)
        try simp only [Act.put, List.setIfInBounds_toArray, List.set_cons_zero, List.set_cons_succ]
        refine wpAnyH_ready (rs := [2]) (by kernel_rfl) (by simp) ?_
        refine (AllReadyH.cons (o := ({ dst := some 25, op := Go.Op.call { callee := Go.Callee.value (Go.Operand.func 11), args := #[Go.Operand.tmp 24], argTypes := #[9] }, type := 4, pos := "tree.go:38", after := #[{ on := 1, ground := Go.Ground.data }], guard := none } : Oper)) rfl (fun K hK => ?_) AllReadyH.nil)
        go_simp
        (refine (CV.out _ (kk4.trans' ((Keep.refl [] W4).drew))).mono ?_; rintro e w' ⟨rfl, hk⟩)
        go_wp2_with fail
        refine hK.out _ _ ?_ (fun hHeld1 => ?_)
        · (try dsimp only); first | exact SE.step hS ((Keep.refl [] _).drew) | exact SE.step (by assumption) hk
        clear hK K
        try simp only [Act.put, List.setIfInBounds_toArray, List.set_cons_zero, List.set_cons_succ]
        refine wpAnyH_take (i := 3) (oi := ({ dst := some 26, op := Go.Op.unOp Go.UnOp.not 4 (Go.Operand.tmp 25), type := 4, pos := "tree.go:38", after := #[{ on := 2, ground := Go.Ground.data }], guard := none } : Oper)) (v := ?_) rfl (by kernel_rfl) (by kernel_rfl) (by kernel_rfl) (fun _ _ _ h => h) (Or.inl ⟨by rfl, ?_⟩) (by assumption) ?_
        rotate_left
        · (intro w hSw; (try dsimp only at hSw); go_simp; try with_reducible rfl)
        try simp only [Act.put, List.setIfInBounds_toArray, List.set_cons_zero, List.set_cons_succ]
        refine wpAnyH_take (i := 4) (oi := ({ dst := some 27, op := Go.Op.move (Go.Operand.tmp 26), type := 4, pos := "tree.go:38", after := #[{ on := 3, ground := Go.Ground.data }, { on := 2, ground := Go.Ground.chain }], guard := none } : Oper)) (v := ?_) rfl (by kernel_rfl) (by kernel_rfl) (by kernel_rfl) (fun _ _ _ h => h) (Or.inl ⟨by rfl, ?_⟩) (by assumption) ?_
        rotate_left
        · (intro w hSw; (try dsimp only at hSw); go_simp; try with_reducible rfl)
        try simp only [Act.put, List.setIfInBounds_toArray, List.set_cons_zero, List.set_cons_succ]
        refine wpAnyH_take (i := 5) (oi := ({ dst := some 28, op := Go.Op.fieldAddr 37 (Go.Operand.tmp 6) 1, type := 0, pos := "tree.go:38", after := #[{ on := 4, ground := Go.Ground.guard }], guard := some (4, false) } : Oper)) (v := undef) rfl (by kernel_rfl) (by kernel_rfl) (by kernel_rfl) (fun _ _ _ h => h) (Or.inr ⟨by rfl, rfl⟩) (by assumption) ?_
        try simp only [Act.put, List.setIfInBounds_toArray, List.set_cons_zero, List.set_cons_succ]
        refine wpAnyH_take (i := 6) (oi := ({ dst := some 29, op := Go.Op.load 3 (Go.Operand.tmp 28), type := 3, pos := "tree.go:38", after := #[{ on := 5, ground := Go.Ground.data }, { on := 4, ground := Go.Ground.guard }], guard := some (4, false) } : Oper)) (v := undef) rfl (by kernel_rfl) (by kernel_rfl) (by kernel_rfl) (fun _ _ _ h => h) (Or.inr ⟨by rfl, rfl⟩) (by assumption) ?_
        try simp only [Act.put, List.setIfInBounds_toArray, List.set_cons_zero, List.set_cons_succ]
        refine wpAnyH_take (i := 7) (oi := ({ dst := some 30, op := Go.Op.binOp Go.BinOp.lss 3 (Go.Operand.tmp 29) (Go.Operand.const (Go.Value.int Go.IntKind.i64 1)) 3, type := 4, pos := "tree.go:38", after := #[{ on := 6, ground := Go.Ground.data }, { on := 4, ground := Go.Ground.guard }], guard := some (4, false) } : Oper)) (v := undef) rfl (by kernel_rfl) (by kernel_rfl) (by kernel_rfl) (fun _ _ _ h => h) (Or.inr ⟨by rfl, rfl⟩) (by assumption) ?_
        try simp only [Act.put, List.setIfInBounds_toArray, List.set_cons_zero, List.set_cons_succ]
        refine wpAnyH_take (i := 8) (oi := ({ dst := some 31, op := Go.Op.pick (Go.Operand.tmp 27) (Go.Operand.const (Go.Value.bool true)) (Go.Operand.tmp 30), type := 4, pos := "tree.go:38", after := #[{ on := 4, ground := Go.Ground.data }, { on := 7, ground := Go.Ground.data }], guard := none } : Oper)) (v := ?_) rfl (by kernel_rfl) (by kernel_rfl) (by kernel_rfl) (fun _ _ _ h => h) (Or.inl ⟨by rfl, ?_⟩) (by assumption) ?_
        rotate_left
        · (intro w hSw; (try dsimp only at hSw); go_simp; try with_reducible rfl)
        try simp only [Act.put, List.setIfInBounds_toArray, List.set_cons_zero, List.set_cons_succ]
        refine wpAnyH_take (i := 9) (oi := ({ dst := some 32, op := Go.Op.move (Go.Operand.tmp 31), type := 4, pos := "tree.go:38", after := #[{ on := 8, ground := Go.Ground.data }, { on := 4, ground := Go.Ground.chain }], guard := none } : Oper)) (v := ?_) rfl (by kernel_rfl) (by kernel_rfl) (by kernel_rfl) (fun _ _ _ h => h) (Or.inl ⟨by rfl, ?_⟩) (by assumption) ?_
        rotate_left
        · (intro w hSw; (try dsimp only at hSw); go_simp; try with_reducible rfl)
        try simp only [Act.put, List.setIfInBounds_toArray, List.set_cons_zero, List.set_cons_succ]
        refine wpAnyH_take (i := 10) (oi := ({ dst := some 33, op := Go.Op.fieldAddr 37 (Go.Operand.tmp 6) 1, type := 0, pos := "tree.go:38", after := #[{ on := 9, ground := Go.Ground.guard }], guard := some (9, false) } : Oper)) (v := undef) rfl (by kernel_rfl) (by kernel_rfl) (by kernel_rfl) (fun _ _ _ h => h) (Or.inr ⟨by rfl, rfl⟩) (by assumption) ?_
        try simp only [Act.put, List.setIfInBounds_toArray, List.set_cons_zero, List.set_cons_succ]
        refine wpAnyH_take (i := 11) (oi := ({ dst := some 34, op := Go.Op.load 3 (Go.Operand.tmp 33), type := 3, pos := "tree.go:38", after := #[{ on := 10, ground := Go.Ground.data }, { on := 9, ground := Go.Ground.guard }], guard := some (9, false) } : Oper)) (v := undef) rfl (by kernel_rfl) (by kernel_rfl) (by kernel_rfl) (fun _ _ _ h => h) (Or.inr ⟨by rfl, rfl⟩) (by assumption) ?_
        try simp only [Act.put, List.setIfInBounds_toArray, List.set_cons_zero, List.set_cons_succ]
        refine wpAnyH_take (i := 12) (oi := ({ dst := some 35, op := Go.Op.binOp Go.BinOp.gtr 3 (Go.Operand.tmp 34) (Go.Operand.const (Go.Value.int Go.IntKind.i64 3)) 3, type := 4, pos := "tree.go:38", after := #[{ on := 11, ground := Go.Ground.data }, { on := 9, ground := Go.Ground.guard }], guard := some (9, false) } : Oper)) (v := undef) rfl (by kernel_rfl) (by kernel_rfl) (by kernel_rfl) (fun _ _ _ h => h) (Or.inr ⟨by rfl, rfl⟩) (by assumption) ?_
        try simp only [Act.put, List.setIfInBounds_toArray, List.set_cons_zero, List.set_cons_succ]
        refine wpAnyH_take (i := 13) (oi := ({ dst := some 36, op := Go.Op.pick (Go.Operand.tmp 32) (Go.Operand.const (Go.Value.bool true)) (Go.Operand.tmp 35), type := 4, pos := "tree.go:38", after := #[{ on := 9, ground := Go.Ground.data }, { on := 12, ground := Go.Ground.data }], guard := none } : Oper)) (v := ?_) rfl (by kernel_rfl) (by kernel_rfl) (by kernel_rfl) (fun _ _ _ h => h) (Or.inl ⟨by rfl, ?_⟩) (by assumption) ?_
        rotate_left
        · (intro w hSw; (try dsimp only at hSw); go_simp; try with_reducible rfl)
        try simp only [Act.put, List.setIfInBounds_toArray, List.set_cons_zero, List.set_cons_succ]
        refine wpAnyH_take (i := 14) (oi := ({ dst := some 37, op := Go.Op.move (Go.Operand.tmp 36), type := 4, pos := "tree.go:38", after := #[{ on := 13, ground := Go.Ground.data }, { on := 9, ground := Go.Ground.chain }], guard := none } : Oper)) (v := ?_) rfl (by kernel_rfl) (by kernel_rfl) (by kernel_rfl) (fun _ _ _ h => h) (Or.inl ⟨by rfl, ?_⟩) (by assumption) ?_
        rotate_left
        · (intro w hSw; (try dsimp only at hSw); go_simp; try with_reducible rfl)
        try simp only [Act.put, List.setIfInBounds_toArray, List.set_cons_zero, List.set_cons_succ]
        refine wpAnyH_take (i := 15) (oi := ({ dst := some 38, op := Go.Op.move (Go.Operand.tmp 5), type := 3, pos := "tree.go:38", after := #[{ on := 14, ground := Go.Ground.guard }], guard := some (14, false) } : Oper)) (v := undef) rfl (by kernel_rfl) (by kernel_rfl) (by kernel_rfl) (fun _ _ _ h => h) (Or.inr ⟨by rfl, rfl⟩) (by assumption) ?_
        try simp only [Act.put, List.setIfInBounds_toArray, List.set_cons_zero, List.set_cons_succ]
        refine wpAnyH_take (i := 16) (oi := ({ dst := some 39, op := Go.Op.binOp Go.BinOp.gtr 3 (Go.Operand.tmp 38) (Go.Operand.const (Go.Value.int Go.IntKind.i64 0)) 3, type := 4, pos := "tree.go:38", after := #[{ on := 15, ground := Go.Ground.data }, { on := 14, ground := Go.Ground.guard }], guard := some (14, false) } : Oper)) (v := undef) rfl (by kernel_rfl) (by kernel_rfl) (by kernel_rfl) (fun _ _ _ h => h) (Or.inr ⟨by rfl, rfl⟩) (by assumption) ?_
        try simp only [Act.put, List.setIfInBounds_toArray, List.set_cons_zero, List.set_cons_succ]
        refine wpAnyH_take (i := 17) (oi := ({ dst := some 40, op := Go.Op.move (Go.Operand.tmp 39), type := 4, pos := "tree.go:38", after := #[{ on := 16, ground := Go.Ground.data }, { on := 14, ground := Go.Ground.chain }, { on := 14, ground := Go.Ground.guard }], guard := some (14, false) } : Oper)) (v := undef) rfl (by kernel_rfl) (by kernel_rfl) (by kernel_rfl) (fun _ _ _ h => h) (Or.inr ⟨by rfl, rfl⟩) (by assumption) ?_
        try simp only [Act.put, List.setIfInBounds_toArray, List.set_cons_zero, List.set_cons_succ]
        refine wpAnyH_take (i := 18) (oi := ({ dst := some 41, op := Go.Op.move (Go.Operand.tmp 0), type := 24, pos := "tree.go:38", after := #[{ on := 17, ground := Go.Ground.guard }], guard := some (17, true) } : Oper)) (v := undef) rfl (by kernel_rfl) (by kernel_rfl) (by kernel_rfl) (fun _ _ _ h => h) (Or.inr ⟨by rfl, rfl⟩) (by assumption) ?_
        try simp only [Act.put, List.setIfInBounds_toArray, List.set_cons_zero, List.set_cons_succ]
        refine wpAnyH_take (i := 19) (oi := ({ dst := some 42, op := Go.Op.move (Go.Operand.tmp 5), type := 3, pos := "tree.go:38", after := #[{ on := 17, ground := Go.Ground.guard }], guard := some (17, true) } : Oper)) (v := undef) rfl (by kernel_rfl) (by kernel_rfl) (by kernel_rfl) (fun _ _ _ h => h) (Or.inr ⟨by rfl, rfl⟩) (by assumption) ?_
        try simp only [Act.put, List.setIfInBounds_toArray, List.set_cons_zero, List.set_cons_succ]
        refine wpAnyH_take (i := 20) (oi := ({ dst := some 43, op := Go.Op.binOp Go.BinOp.sub 3 (Go.Operand.tmp 42) (Go.Operand.const (Go.Value.int Go.IntKind.i64 1)) 3, type := 3, pos := "tree.go:38", after := #[{ on := 19, ground := Go.Ground.data }, { on := 17, ground := Go.Ground.guard }], guard := some (17, true) } : Oper)) (v := undef) rfl (by kernel_rfl) (by kernel_rfl) (by kernel_rfl) (fun _ _ _ h => h) (Or.inr ⟨by rfl, rfl⟩) (by assumption) ?_
        try simp only [Act.put, List.setIfInBounds_toArray, List.set_cons_zero, List.set_cons_succ]
        refine wpAnyH_take (i := 21) (oi := ({ dst := some 44, op := Go.Op.indexAddr 24 (Go.Operand.tmp 41) (Go.Operand.tmp 43), type := 0, pos := "tree.go:38", after := #[{ on := 18, ground := Go.Ground.data }, { on := 20, ground := Go.Ground.data }, { on := 17, ground := Go.Ground.guard }], guard := some (17, true) } : Oper)) (v := undef) rfl (by kernel_rfl) (by kernel_rfl) (by kernel_rfl) (fun _ _ _ h => h) (Or.inr ⟨by rfl, rfl⟩) (by assumption) ?_
        try simp only [Act.put, List.setIfInBounds_toArray, List.set_cons_zero, List.set_cons_succ]
        refine wpAnyH_take (i := 22) (oi := ({ dst := some 45, op := Go.Op.fieldAddr 37 (Go.Operand.tmp 44) 0, type := 0, pos := "tree.go:38", after := #[{ on := 21, ground := Go.Ground.data }, { on := 17, ground := Go.Ground.guard }], guard := some (17, true) } : Oper)) (v := undef) rfl (by kernel_rfl) (by kernel_rfl) (by kernel_rfl) (fun _ _ _ h => h) (Or.inr ⟨by rfl, rfl⟩) (by assumption) ?_
        try simp only [Act.put, List.setIfInBounds_toArray, List.set_cons_zero, List.set_cons_succ]
        refine wpAnyH_take (i := 23) (oi := ({ dst := some 46, op := Go.Op.load 9 (Go.Operand.tmp 45), type := 9, pos := "tree.go:38", after := #[{ on := 22, ground := Go.Ground.data }, { on := 17, ground := Go.Ground.guard }], guard := some (17, true) } : Oper)) (v := undef) rfl (by kernel_rfl) (by kernel_rfl) (by kernel_rfl) (fun _ _ _ h => h) (Or.inr ⟨by rfl, rfl⟩) (by assumption) ?_
        try simp only [Act.put, List.setIfInBounds_toArray, List.set_cons_zero, List.set_cons_succ]
        refine wpAnyH_take (i := 24) (oi := ({ dst := some 47, op := Go.Op.fieldAddr 37 (Go.Operand.tmp 6) 0, type := 0, pos := "tree.go:38", after := #[{ on := 17, ground := Go.Ground.guard }], guard := some (17, true) } : Oper)) (v := undef) rfl (by kernel_rfl) (by kernel_rfl) (by kernel_rfl) (fun _ _ _ h => h) (Or.inr ⟨by rfl, rfl⟩) (by assumption) ?_
        try simp only [Act.put, List.setIfInBounds_toArray, List.set_cons_zero, List.set_cons_succ]
        refine wpAnyH_take (i := 25) (oi := ({ dst := some 48, op := Go.Op.load 9 (Go.Operand.tmp 47), type := 9, pos := "tree.go:38", after := #[{ on := 24, ground := Go.Ground.data }, { on := 17, ground := Go.Ground.guard }], guard := some (17, true) } : Oper)) (v := undef) rfl (by kernel_rfl) (by kernel_rfl) (by kernel_rfl) (fun _ _ _ h => h) (Or.inr ⟨by rfl, rfl⟩) (by assumption) ?_
        try simp only [Act.put, List.setIfInBounds_toArray, List.set_cons_zero, List.set_cons_succ]
        refine wpAnyH_take (i := 26) (oi := ({ dst := some 49, op := Go.Op.binOp Go.BinOp.geq 9 (Go.Operand.tmp 46) (Go.Operand.tmp 48) 9, type := 4, pos := "tree.go:38", after := #[{ on := 23, ground := Go.Ground.data }, { on := 25, ground := Go.Ground.data }, { on := 17, ground := Go.Ground.guard }], guard := some (17, true) } : Oper)) (v := undef) rfl (by kernel_rfl) (by kernel_rfl) (by kernel_rfl) (fun _ _ _ h => h) (Or.inr ⟨by rfl, rfl⟩) (by assumption) ?_
        try simp only [Act.put, List.setIfInBounds_toArray, List.set_cons_zero, List.set_cons_succ]
        refine wpAnyH_take (i := 27) (oi := ({ dst := some 50, op := Go.Op.pick (Go.Operand.tmp 40) (Go.Operand.tmp 49) (Go.Operand.const (Go.Value.bool false)), type := 4, pos := "tree.go:38", after := #[{ on := 17, ground := Go.Ground.data }, { on := 26, ground := Go.Ground.data }, { on := 14, ground := Go.Ground.guard }], guard := some (14, false) } : Oper)) (v := undef) rfl (by kernel_rfl) (by kernel_rfl) (by kernel_rfl) (fun _ _ _ h => h) (Or.inr ⟨by rfl, rfl⟩) (by assumption) ?_
        try simp only [Act.put, List.setIfInBounds_toArray, List.set_cons_zero, List.set_cons_succ]
        refine wpAnyH_take (i := 28) (oi := ({ dst := some 51, op := Go.Op.pick (Go.Operand.tmp 37) (Go.Operand.const (Go.Value.bool true)) (Go.Operand.tmp 50), type := 4, pos := "tree.go:38", after := #[{ on := 14, ground := Go.Ground.data }, { on := 27, ground := Go.Ground.data }], guard := none } : Oper)) (v := ?_) rfl (by kernel_rfl) (by kernel_rfl) (by kernel_rfl) (fun _ _ _ h => h) (Or.inl ⟨by rfl, ?_⟩) (by assumption) ?_
        rotate_left
        · (intro w hSw; (try dsimp only at hSw); go_simp; try with_reducible rfl)
        try simp only [Act.put, List.setIfInBounds_toArray, List.set_cons_zero, List.set_cons_succ]
        refine wpAnyH_done (by kernel_rfl) ?_ _
        refine NoPanic.normal ?_
        skip
        go_wp2_with fail
        go_returns
        obtain ⟨rfl, rfl⟩ := HNO.out (isT_no (stepE_no HEX.out (okE_name HV.out)) (by rw [HL.out]; exact HLT.out))
        exact GiveE.none (kk4.trans' hHeld1.2.2.2)
      | true =>
        rw [hv] at CV0
        have CV := Lib.hid CV0
        have HV := Lib.hid hv
        clear CV0 hv
        by_cases p1 : kd < 1
        · have d1 : decide (kd < 1) = true := decide_eq_true p1
          have hS : SE W4 px x.name kd px 0 x.name W4 := ⟨cn, by simpa using ck, cn, Keep.refl _ _⟩
          obtain ⟨tb, htb⟩ : ∃ t, px = t := ⟨_, rfl⟩
          obtain ⟨tO, hto⟩ : ∃ t, (0 : Nat) = t := ⟨_, rfl⟩
          obtain ⟨tY, hty⟩ : ∃ t, x.name = t := ⟨_, rfl⟩
          replace hS : SE W4 px x.name kd tb tO tY W4 := by rw [← htb, ← hto, ← hty]; exact hS
          clear htb hto hty
          refine wp_region_noPanic ?_
          refine wp_region_held_drew (S := SE W4 px x.name kd tb tO tY) (by kernel_rfl) ?_ (fun hHeld0 => ?_)
          · (try dsimp only); first | exact SE.step hS ((Keep.refl [] _).drew) | exact SE.step (by assumption) hk
          refine wpAnyH_take (i := 0) (oi := ({ dst := some 23, op := Go.Op.fieldAddr 37 (Go.Operand.tmp 6) 0, type := 0, pos := "tree.go:38", after := #[], guard := none } : Oper)) (v := ?_) rfl (by kernel_rfl) (by kernel_rfl) (by kernel_rfl) (fun _ _ _ h => h) (Or.inl ⟨by rfl, ?_⟩) (by assumption) ?_
          rotate_left
          · (intro w hSw; (try dsimp only at hSw); go_simp; try with_reducible rfl)
          try simp only [Act.put, List.setIfInBounds_toArray, List.set_cons_zero, List.set_cons_succ]
          refine wpAnyH_take (i := 1) (oi := ({ dst := some 24, op := Go.Op.load 9 (Go.Operand.tmp 23), type := 9, pos := "tree.go:38", after := #[{ on := 0, ground := Go.Ground.data }], guard := none } : Oper)) (v := ?_) rfl (by kernel_rfl) (by kernel_rfl) (by kernel_rfl) (fun _ _ _ h => h) (Or.inl ⟨by rfl, ?_⟩) (by assumption) ?_
          rotate_left
          · (intro w hSw; (try dsimp only at hSw); have c1 := hSw.1; go_simp; try with_reducible rfl)
          try simp only [Act.put, List.setIfInBounds_toArray, List.set_cons_zero, List.set_cons_succ]
          refine wpAnyH_ready (rs := [2]) (by kernel_rfl) (by simp) ?_
          refine (AllReadyH.cons (o := ({ dst := some 25, op := Go.Op.call { callee := Go.Callee.value (Go.Operand.func 11), args := #[Go.Operand.tmp 24], argTypes := #[9] }, type := 4, pos := "tree.go:38", after := #[{ on := 1, ground := Go.Ground.data }], guard := none } : Oper)) rfl (fun K hK => ?_) AllReadyH.nil)
          go_simp
          (refine (CV.out _ (kk4.trans' ((Keep.refl [] W4).drew))).mono ?_; rintro e w' ⟨rfl, hk⟩)
          go_wp2_with fail
          refine hK.out _ _ ?_ (fun hHeld1 => ?_)
          · (try dsimp only); first | exact SE.step hS ((Keep.refl [] _).drew) | exact SE.step (by assumption) hk
          clear hK K
          try simp only [Act.put, List.setIfInBounds_toArray, List.set_cons_zero, List.set_cons_succ]
          refine wpAnyH_take (i := 3) (oi := ({ dst := some 26, op := Go.Op.unOp Go.UnOp.not 4 (Go.Operand.tmp 25), type := 4, pos := "tree.go:38", after := #[{ on := 2, ground := Go.Ground.data }], guard := none } : Oper)) (v := ?_) rfl (by kernel_rfl) (by kernel_rfl) (by kernel_rfl) (fun _ _ _ h => h) (Or.inl ⟨by rfl, ?_⟩) (by assumption) ?_
          rotate_left
          · (intro w hSw; (try dsimp only at hSw); go_simp; try with_reducible rfl)
          try simp only [Act.put, List.setIfInBounds_toArray, List.set_cons_zero, List.set_cons_succ]
          refine wpAnyH_take (i := 4) (oi := ({ dst := some 27, op := Go.Op.move (Go.Operand.tmp 26), type := 4, pos := "tree.go:38", after := #[{ on := 3, ground := Go.Ground.data }, { on := 2, ground := Go.Ground.chain }], guard := none } : Oper)) (v := ?_) rfl (by kernel_rfl) (by kernel_rfl) (by kernel_rfl) (fun _ _ _ h => h) (Or.inl ⟨by rfl, ?_⟩) (by assumption) ?_
          rotate_left
          · (intro w hSw; (try dsimp only at hSw); go_simp; try with_reducible rfl)
          try simp only [Act.put, List.setIfInBounds_toArray, List.set_cons_zero, List.set_cons_succ]
          refine wpAnyH_take (i := 5) (oi := ({ dst := some 28, op := Go.Op.fieldAddr 37 (Go.Operand.tmp 6) 1, type := 0, pos := "tree.go:38", after := #[{ on := 4, ground := Go.Ground.guard }], guard := some (4, false) } : Oper)) (v := ?_) rfl (by kernel_rfl) (by kernel_rfl) (by kernel_rfl) (fun _ _ _ h => h) (Or.inl ⟨by rfl, ?_⟩) (by assumption) ?_
          rotate_left
          · (intro w hSw; (try dsimp only at hSw); go_simp; try with_reducible rfl)
          try simp only [Act.put, List.setIfInBounds_toArray, List.set_cons_zero, List.set_cons_succ]
          refine wpAnyH_take (i := 6) (oi := ({ dst := some 29, op := Go.Op.load 3 (Go.Operand.tmp 28), type := 3, pos := "tree.go:38", after := #[{ on := 5, ground := Go.Ground.data }, { on := 4, ground := Go.Ground.guard }], guard := some (4, false) } : Oper)) (v := ?_) rfl (by kernel_rfl) (by kernel_rfl) (by kernel_rfl) (fun _ _ _ h => h) (Or.inl ⟨by rfl, ?_⟩) (by assumption) ?_
          rotate_left
          · (intro w hSw; (try dsimp only at hSw); have c1 := hSw.2.1; go_simp; try with_reducible rfl)
          try simp only [Act.put, List.setIfInBounds_toArray, List.set_cons_zero, List.set_cons_succ]
          refine wpAnyH_take (i := 7) (oi := ({ dst := some 30, op := Go.Op.binOp Go.BinOp.lss 3 (Go.Operand.tmp 29) (Go.Operand.const (Go.Value.int Go.IntKind.i64 1)) 3, type := 4, pos := "tree.go:38", after := #[{ on := 6, ground := Go.Ground.data }, { on := 4, ground := Go.Ground.guard }], guard := some (4, false) } : Oper)) (v := ?_) rfl (by kernel_rfl) (by kernel_rfl) (by kernel_rfl) (fun _ _ _ h => h) (Or.inl ⟨by rfl, ?_⟩) (by assumption) ?_
          rotate_left
          · (intro w hSw; (try dsimp only at hSw); go_simp; try with_reducible rfl)
          try simp only [Act.put, List.setIfInBounds_toArray, List.set_cons_zero, List.set_cons_succ]
          refine wpAnyH_take (i := 8) (oi := ({ dst := some 31, op := Go.Op.pick (Go.Operand.tmp 27) (Go.Operand.const (Go.Value.bool true)) (Go.Operand.tmp 30), type := 4, pos := "tree.go:38", after := #[{ on := 4, ground := Go.Ground.data }, { on := 7, ground := Go.Ground.data }], guard := none } : Oper)) (v := ?_) rfl (by kernel_rfl) (by kernel_rfl) (by kernel_rfl) (fun _ _ _ h => h) (Or.inl ⟨by rfl, ?_⟩) (by assumption) ?_
          rotate_left
          · (intro w hSw; (try dsimp only at hSw); go_simp; try with_reducible rfl)
          try simp only [Act.put, List.setIfInBounds_toArray, List.set_cons_zero, List.set_cons_succ]
          refine wpAnyH_take (i := 9) (oi := ({ dst := some 32, op := Go.Op.move (Go.Operand.tmp 31), type := 4, pos := "tree.go:38", after := #[{ on := 8, ground := Go.Ground.data }, { on := 4, ground := Go.Ground.chain }], guard := none } : Oper)) (v := ?_) rfl (by kernel_rfl) (by kernel_rfl) (by kernel_rfl) (fun _ _ _ h => h) (Or.inl ⟨by rfl, ?_⟩) (by assumption) ?_
          rotate_left
          · (intro w hSw; (try dsimp only at hSw); go_simp; try with_reducible rfl)
          try simp only [Act.put, List.setIfInBounds_toArray, List.set_cons_zero, List.set_cons_succ]
          refine wpAnyH_take (i := 10) (oi := ({ dst := some 33, op := Go.Op.fieldAddr 37 (Go.Operand.tmp 6) 1, type := 0, pos := "tree.go:38", after := #[{ on := 9, ground := Go.Ground.guard }], guard := some (9, false) } : Oper)) (v := undef) rfl (by kernel_rfl) (by kernel_rfl) (by kernel_rfl) (fun _ _ _ h => h) (Or.inr ⟨by rfl, rfl⟩) (by assumption) ?_
          try simp only [Act.put, List.setIfInBounds_toArray, List.set_cons_zero, List.set_cons_succ]
          refine wpAnyH_take (i := 11) (oi := ({ dst := some 34, op := Go.Op.load 3 (Go.Operand.tmp 33), type := 3, pos := "tree.go:38", after := #[{ on := 10, ground := Go.Ground.data }, { on := 9, ground := Go.Ground.guard }], guard := some (9, false) } : Oper)) (v := undef) rfl (by kernel_rfl) (by kernel_rfl) (by kernel_rfl) (fun _ _ _ h => h) (Or.inr ⟨by rfl, rfl⟩) (by assumption) ?_
          try simp only [Act.put, List.setIfInBounds_toArray, List.set_cons_zero, List.set_cons_succ]
          refine wpAnyH_take (i := 12) (oi := ({ dst := some 35, op := Go.Op.binOp Go.BinOp.gtr 3 (Go.Operand.tmp 34) (Go.Operand.const (Go.Value.int Go.IntKind.i64 3)) 3, type := 4, pos := "tree.go:38", after := #[{ on := 11, ground := Go.Ground.data }, { on := 9, ground := Go.Ground.guard }], guard := some (9, false) } : Oper)) (v := undef) rfl (by kernel_rfl) (by kernel_rfl) (by kernel_rfl) (fun _ _ _ h => h) (Or.inr ⟨by rfl, rfl⟩) (by assumption) ?_
          try simp only [Act.put, List.setIfInBounds_toArray, List.set_cons_zero, List.set_cons_succ]
          refine wpAnyH_take (i := 13) (oi := ({ dst := some 36, op := Go.Op.pick (Go.Operand.tmp 32) (Go.Operand.const (Go.Value.bool true)) (Go.Operand.tmp 35), type := 4, pos := "tree.go:38", after := #[{ on := 9, ground := Go.Ground.data }, { on := 12, ground := Go.Ground.data }], guard := none } : Oper)) (v := ?_) rfl (by kernel_rfl) (by kernel_rfl) (by kernel_rfl) (fun _ _ _ h => h) (Or.inl ⟨by rfl, ?_⟩) (by assumption) ?_
          rotate_left
          · (intro w hSw; (try dsimp only at hSw); go_simp; try with_reducible rfl)
          try simp only [Act.put, List.setIfInBounds_toArray, List.set_cons_zero, List.set_cons_succ]
          refine wpAnyH_take (i := 14) (oi := ({ dst := some 37, op := Go.Op.move (Go.Operand.tmp 36), type := 4, pos := "tree.go:38", after := #[{ on := 13, ground := Go.Ground.data }, { on := 9, ground := Go.Ground.chain }], guard := none } : Oper)) (v := ?_) rfl (by kernel_rfl) (by kernel_rfl) (by kernel_rfl) (fun _ _ _ h => h) (Or.inl ⟨by rfl, ?_⟩) (by assumption) ?_
          rotate_left
          · (intro w hSw; (try dsimp only at hSw); go_simp; try with_reducible rfl)
          try simp only [Act.put, List.setIfInBounds_toArray, List.set_cons_zero, List.set_cons_succ]
          refine wpAnyH_take (i := 15) (oi := ({ dst := some 38, op := Go.Op.move (Go.Operand.tmp 5), type := 3, pos := "tree.go:38", after := #[{ on := 14, ground := Go.Ground.guard }], guard := some (14, false) } : Oper)) (v := undef) rfl (by kernel_rfl) (by kernel_rfl) (by kernel_rfl) (fun _ _ _ h => h) (Or.inr ⟨by rfl, rfl⟩) (by assumption) ?_
          try simp only [Act.put, List.setIfInBounds_toArray, List.set_cons_zero, List.set_cons_succ]
          refine wpAnyH_take (i := 16) (oi := ({ dst := some 39, op := Go.Op.binOp Go.BinOp.gtr 3 (Go.Operand.tmp 38) (Go.Operand.const (Go.Value.int Go.IntKind.i64 0)) 3, type := 4, pos := "tree.go:38", after := #[{ on := 15, ground := Go.Ground.data }, { on := 14, ground := Go.Ground.guard }], guard := some (14, false) } : Oper)) (v := undef) rfl (by kernel_rfl) (by kernel_rfl) (by kernel_rfl) (fun _ _ _ h => h) (Or.inr ⟨by rfl, rfl⟩) (by assumption) ?_
          try simp only [Act.put, List.setIfInBounds_toArray, List.set_cons_zero, List.set_cons_succ]
          refine wpAnyH_take (i := 17) (oi := ({ dst := some 40, op := Go.Op.move (Go.Operand.tmp 39), type := 4, pos := "tree.go:38", after := #[{ on := 16, ground := Go.Ground.data }, { on := 14, ground := Go.Ground.chain }, { on := 14, ground := Go.Ground.guard }], guard := some (14, false) } : Oper)) (v := undef) rfl (by kernel_rfl) (by kernel_rfl) (by kernel_rfl) (fun _ _ _ h => h) (Or.inr ⟨by rfl, rfl⟩) (by assumption) ?_
          try simp only [Act.put, List.setIfInBounds_toArray, List.set_cons_zero, List.set_cons_succ]
          refine wpAnyH_take (i := 18) (oi := ({ dst := some 41, op := Go.Op.move (Go.Operand.tmp 0), type := 24, pos := "tree.go:38", after := #[{ on := 17, ground := Go.Ground.guard }], guard := some (17, true) } : Oper)) (v := undef) rfl (by kernel_rfl) (by kernel_rfl) (by kernel_rfl) (fun _ _ _ h => h) (Or.inr ⟨by rfl, rfl⟩) (by assumption) ?_
          try simp only [Act.put, List.setIfInBounds_toArray, List.set_cons_zero, List.set_cons_succ]
          refine wpAnyH_take (i := 19) (oi := ({ dst := some 42, op := Go.Op.move (Go.Operand.tmp 5), type := 3, pos := "tree.go:38", after := #[{ on := 17, ground := Go.Ground.guard }], guard := some (17, true) } : Oper)) (v := undef) rfl (by kernel_rfl) (by kernel_rfl) (by kernel_rfl) (fun _ _ _ h => h) (Or.inr ⟨by rfl, rfl⟩) (by assumption) ?_
          try simp only [Act.put, List.setIfInBounds_toArray, List.set_cons_zero, List.set_cons_succ]
          refine wpAnyH_take (i := 20) (oi := ({ dst := some 43, op := Go.Op.binOp Go.BinOp.sub 3 (Go.Operand.tmp 42) (Go.Operand.const (Go.Value.int Go.IntKind.i64 1)) 3, type := 3, pos := "tree.go:38", after := #[{ on := 19, ground := Go.Ground.data }, { on := 17, ground := Go.Ground.guard }], guard := some (17, true) } : Oper)) (v := undef) rfl (by kernel_rfl) (by kernel_rfl) (by kernel_rfl) (fun _ _ _ h => h) (Or.inr ⟨by rfl, rfl⟩) (by assumption) ?_
          try simp only [Act.put, List.setIfInBounds_toArray, List.set_cons_zero, List.set_cons_succ]
          refine wpAnyH_take (i := 21) (oi := ({ dst := some 44, op := Go.Op.indexAddr 24 (Go.Operand.tmp 41) (Go.Operand.tmp 43), type := 0, pos := "tree.go:38", after := #[{ on := 18, ground := Go.Ground.data }, { on := 20, ground := Go.Ground.data }, { on := 17, ground := Go.Ground.guard }], guard := some (17, true) } : Oper)) (v := undef) rfl (by kernel_rfl) (by kernel_rfl) (by kernel_rfl) (fun _ _ _ h => h) (Or.inr ⟨by rfl, rfl⟩) (by assumption) ?_
          try simp only [Act.put, List.setIfInBounds_toArray, List.set_cons_zero, List.set_cons_succ]
          refine wpAnyH_take (i := 22) (oi := ({ dst := some 45, op := Go.Op.fieldAddr 37 (Go.Operand.tmp 44) 0, type := 0, pos := "tree.go:38", after := #[{ on := 21, ground := Go.Ground.data }, { on := 17, ground := Go.Ground.guard }], guard := some (17, true) } : Oper)) (v := undef) rfl (by kernel_rfl) (by kernel_rfl) (by kernel_rfl) (fun _ _ _ h => h) (Or.inr ⟨by rfl, rfl⟩) (by assumption) ?_
          try simp only [Act.put, List.setIfInBounds_toArray, List.set_cons_zero, List.set_cons_succ]
          refine wpAnyH_take (i := 23) (oi := ({ dst := some 46, op := Go.Op.load 9 (Go.Operand.tmp 45), type := 9, pos := "tree.go:38", after := #[{ on := 22, ground := Go.Ground.data }, { on := 17, ground := Go.Ground.guard }], guard := some (17, true) } : Oper)) (v := undef) rfl (by kernel_rfl) (by kernel_rfl) (by kernel_rfl) (fun _ _ _ h => h) (Or.inr ⟨by rfl, rfl⟩) (by assumption) ?_
          try simp only [Act.put, List.setIfInBounds_toArray, List.set_cons_zero, List.set_cons_succ]
          refine wpAnyH_take (i := 24) (oi := ({ dst := some 47, op := Go.Op.fieldAddr 37 (Go.Operand.tmp 6) 0, type := 0, pos := "tree.go:38", after := #[{ on := 17, ground := Go.Ground.guard }], guard := some (17, true) } : Oper)) (v := undef) rfl (by kernel_rfl) (by kernel_rfl) (by kernel_rfl) (fun _ _ _ h => h) (Or.inr ⟨by rfl, rfl⟩) (by assumption) ?_
          try simp only [Act.put, List.setIfInBounds_toArray, List.set_cons_zero, List.set_cons_succ]
          refine wpAnyH_take (i := 25) (oi := ({ dst := some 48, op := Go.Op.load 9 (Go.Operand.tmp 47), type := 9, pos := "tree.go:38", after := #[{ on := 24, ground := Go.Ground.data }, { on := 17, ground := Go.Ground.guard }], guard := some (17, true) } : Oper)) (v := undef) rfl (by kernel_rfl) (by kernel_rfl) (by kernel_rfl) (fun _ _ _ h => h) (Or.inr ⟨by rfl, rfl⟩) (by assumption) ?_
          try simp only [Act.put, List.setIfInBounds_toArray, List.set_cons_zero, List.set_cons_succ]
          refine wpAnyH_take (i := 26) (oi := ({ dst := some 49, op := Go.Op.binOp Go.BinOp.geq 9 (Go.Operand.tmp 46) (Go.Operand.tmp 48) 9, type := 4, pos := "tree.go:38", after := #[{ on := 23, ground := Go.Ground.data }, { on := 25, ground := Go.Ground.data }, { on := 17, ground := Go.Ground.guard }], guard := some (17, true) } : Oper)) (v := undef) rfl (by kernel_rfl) (by kernel_rfl) (by kernel_rfl) (fun _ _ _ h => h) (Or.inr ⟨by rfl, rfl⟩) (by assumption) ?_
          try simp only [Act.put, List.setIfInBounds_toArray, List.set_cons_zero, List.set_cons_succ]
          refine wpAnyH_take (i := 27) (oi := ({ dst := some 50, op := Go.Op.pick (Go.Operand.tmp 40) (Go.Operand.tmp 49) (Go.Operand.const (Go.Value.bool false)), type := 4, pos := "tree.go:38", after := #[{ on := 17, ground := Go.Ground.data }, { on := 26, ground := Go.Ground.data }, { on := 14, ground := Go.Ground.guard }], guard := some (14, false) } : Oper)) (v := undef) rfl (by kernel_rfl) (by kernel_rfl) (by kernel_rfl) (fun _ _ _ h => h) (Or.inr ⟨by rfl, rfl⟩) (by assumption) ?_
          try simp only [Act.put, List.setIfInBounds_toArray, List.set_cons_zero, List.set_cons_succ]
          refine wpAnyH_take (i := 28) (oi := ({ dst := some 51, op := Go.Op.pick (Go.Operand.tmp 37) (Go.Operand.const (Go.Value.bool true)) (Go.Operand.tmp 50), type := 4, pos := "tree.go:38", after := #[{ on := 14, ground := Go.Ground.data }, { on := 27, ground := Go.Ground.data }], guard := none } : Oper)) (v := ?_) rfl (by kernel_rfl) (by kernel_rfl) (by kernel_rfl) (fun _ _ _ h => h) (Or.inl ⟨by rfl, ?_⟩) (by assumption) ?_
          rotate_left
          · (intro w hSw; (try dsimp only at hSw); go_simp; try with_reducible rfl)
          try simp only [Act.put, List.setIfInBounds_toArray, List.set_cons_zero, List.set_cons_succ]
          refine wpAnyH_done (by kernel_rfl) ?_ _
          refine NoPanic.normal ?_
          skip
          go_wp2_with fail
          go_returns
          obtain ⟨rfl, rfl⟩ := HNO.out (isT_no (stepE_no HEX.out (okE_kind (Or.inl (by rw [HKD.out]; exact p1)))) (by rw [HL.out]; exact HLT.out))
          exact GiveE.none (kk4.trans' hHeld1.2.2.2)
        have d1 : decide (kd < 1) = false := decide_eq_false p1
        by_cases p2 : 3 < kd
        · have d2 : decide (3 < kd) = true := decide_eq_true p2
          have hS : SE W4 px x.name kd px 0 x.name W4 := ⟨cn, by simpa using ck, cn, Keep.refl _ _⟩
          obtain ⟨tb, htb⟩ : ∃ t, px = t := ⟨_, rfl⟩
          obtain ⟨tO, hto⟩ : ∃ t, (0 : Nat) = t := ⟨_, rfl⟩
          obtain ⟨tY, hty⟩ : ∃ t, x.name = t := ⟨_, rfl⟩
          replace hS : SE W4 px x.name kd tb tO tY W4 := by rw [← htb, ← hto, ← hty]; exact hS
          clear htb hto hty
          refine wp_region_noPanic ?_
          refine wp_region_held_drew (S := SE W4 px x.name kd tb tO tY) (by kernel_rfl) ?_ (fun hHeld0 => ?_)
          · (try dsimp only); first | exact SE.step hS ((Keep.refl [] _).drew) | exact SE.step (by assumption) hk
          refine wpAnyH_take (i := 0) (oi := ({ dst := some 23, op := Go.Op.fieldAddr 37 (Go.Operand.tmp 6) 0, type := 0, pos := "tree.go:38", after := #[], guard := none } : Oper)) (v := ?_) rfl (by kernel_rfl) (by kernel_rfl) (by kernel_rfl) (fun _ _ _ h => h) (Or.inl ⟨by rfl, ?_⟩) (by assumption) ?_
          rotate_left
          · (intro w hSw; (try dsimp only at hSw); go_simp; try with_reducible rfl)
          try simp only [Act.put, List.setIfInBounds_toArray, List.set_cons_zero, List.set_cons_succ]
          refine wpAnyH_take (i := 1) (oi := ({ dst := some 24, op := Go.Op.load 9 (Go.Operand.tmp 23), type := 9, pos := "tree.go:38", after := #[{ on := 0, ground := Go.Ground.data }], guard := none } : Oper)) (v := ?_) rfl (by kernel_rfl) (by kernel_rfl) (by kernel_rfl) (fun _ _ _ h => h) (Or.inl ⟨by rfl, ?_⟩) (by assumption) ?_
          rotate_left
          · (intro w hSw; (try dsimp only at hSw); have c1 := hSw.1; go_simp; try with_reducible rfl)
          try simp only [Act.put, List.setIfInBounds_toArray, List.set_cons_zero, List.set_cons_succ]
          refine wpAnyH_ready (rs := [2]) (by kernel_rfl) (by simp) ?_
          refine (AllReadyH.cons (o := ({ dst := some 25, op := Go.Op.call { callee := Go.Callee.value (Go.Operand.func 11), args := #[Go.Operand.tmp 24], argTypes := #[9] }, type := 4, pos := "tree.go:38", after := #[{ on := 1, ground := Go.Ground.data }], guard := none } : Oper)) rfl (fun K hK => ?_) AllReadyH.nil)
          go_simp
          (refine (CV.out _ (kk4.trans' ((Keep.refl [] W4).drew))).mono ?_; rintro e w' ⟨rfl, hk⟩)
          go_wp2_with fail
          refine hK.out _ _ ?_ (fun hHeld1 => ?_)
          · (try dsimp only); first | exact SE.step hS ((Keep.refl [] _).drew) | exact SE.step (by assumption) hk
          clear hK K
          try simp only [Act.put, List.setIfInBounds_toArray, List.set_cons_zero, List.set_cons_succ]
          refine wpAnyH_take (i := 3) (oi := ({ dst := some 26, op := Go.Op.unOp Go.UnOp.not 4 (Go.Operand.tmp 25), type := 4, pos := "tree.go:38", after := #[{ on := 2, ground := Go.Ground.data }], guard := none } : Oper)) (v := ?_) rfl (by kernel_rfl) (by kernel_rfl) (by kernel_rfl) (fun _ _ _ h => h) (Or.inl ⟨by rfl, ?_⟩) (by assumption) ?_
          rotate_left
          · (intro w hSw; (try dsimp only at hSw); go_simp; try with_reducible rfl)
          try simp only [Act.put, List.setIfInBounds_toArray, List.set_cons_zero, List.set_cons_succ]
          refine wpAnyH_take (i := 4) (oi := ({ dst := some 27, op := Go.Op.move (Go.Operand.tmp 26), type := 4, pos := "tree.go:38", after := #[{ on := 3, ground := Go.Ground.data }, { on := 2, ground := Go.Ground.chain }], guard := none } : Oper)) (v := ?_) rfl (by kernel_rfl) (by kernel_rfl) (by kernel_rfl) (fun _ _ _ h => h) (Or.inl ⟨by rfl, ?_⟩) (by assumption) ?_
          rotate_left
          · (intro w hSw; (try dsimp only at hSw); go_simp; try with_reducible rfl)
          try simp only [Act.put, List.setIfInBounds_toArray, List.set_cons_zero, List.set_cons_succ]
          refine wpAnyH_take (i := 5) (oi := ({ dst := some 28, op := Go.Op.fieldAddr 37 (Go.Operand.tmp 6) 1, type := 0, pos := "tree.go:38", after := #[{ on := 4, ground := Go.Ground.guard }], guard := some (4, false) } : Oper)) (v := ?_) rfl (by kernel_rfl) (by kernel_rfl) (by kernel_rfl) (fun _ _ _ h => h) (Or.inl ⟨by rfl, ?_⟩) (by assumption) ?_
          rotate_left
          · (intro w hSw; (try dsimp only at hSw); go_simp; try with_reducible rfl)
          try simp only [Act.put, List.setIfInBounds_toArray, List.set_cons_zero, List.set_cons_succ]
          refine wpAnyH_take (i := 6) (oi := ({ dst := some 29, op := Go.Op.load 3 (Go.Operand.tmp 28), type := 3, pos := "tree.go:38", after := #[{ on := 5, ground := Go.Ground.data }, { on := 4, ground := Go.Ground.guard }], guard := some (4, false) } : Oper)) (v := ?_) rfl (by kernel_rfl) (by kernel_rfl) (by kernel_rfl) (fun _ _ _ h => h) (Or.inl ⟨by rfl, ?_⟩) (by assumption) ?_
          rotate_left
          · (intro w hSw; (try dsimp only at hSw); have c1 := hSw.2.1; go_simp; try with_reducible rfl)
          try simp only [Act.put, List.setIfInBounds_toArray, List.set_cons_zero, List.set_cons_succ]
          refine wpAnyH_take (i := 7) (oi := ({ dst := some 30, op := Go.Op.binOp Go.BinOp.lss 3 (Go.Operand.tmp 29) (Go.Operand.const (Go.Value.int Go.IntKind.i64 1)) 3, type := 4, pos := "tree.go:38", after := #[{ on := 6, ground := Go.Ground.data }, { on := 4, ground := Go.Ground.guard }], guard := some (4, false) } : Oper)) (v := ?_) rfl (by kernel_rfl) (by kernel_rfl) (by kernel_rfl) (fun _ _ _ h => h) (Or.inl ⟨by rfl, ?_⟩) (by assumption) ?_
          rotate_left
          · (intro w hSw; (try dsimp only at hSw); go_simp; try with_reducible rfl)
          try simp only [Act.put, List.setIfInBounds_toArray, List.set_cons_zero, List.set_cons_succ]
          refine wpAnyH_take (i := 8) (oi := ({ dst := some 31, op := Go.Op.pick (Go.Operand.tmp 27) (Go.Operand.const (Go.Value.bool true)) (Go.Operand.tmp 30), type := 4, pos := "tree.go:38", after := #[{ on := 4, ground := Go.Ground.data }, { on := 7, ground := Go.Ground.data }], guard := none } : Oper)) (v := ?_) rfl (by kernel_rfl) (by kernel_rfl) (by kernel_rfl) (fun _ _ _ h => h) (Or.inl ⟨by rfl, ?_⟩) (by assumption) ?_
          rotate_left
          · (intro w hSw; (try dsimp only at hSw); go_simp; try with_reducible rfl)
          try simp only [Act.put, List.setIfInBounds_toArray, List.set_cons_zero, List.set_cons_succ]
          refine wpAnyH_take (i := 9) (oi := ({ dst := some 32, op := Go.Op.move (Go.Operand.tmp 31), type := 4, pos := "tree.go:38", after := #[{ on := 8, ground := Go.Ground.data }, { on := 4, ground := Go.Ground.chain }], guard := none } : Oper)) (v := ?_) rfl (by kernel_rfl) (by kernel_rfl) (by kernel_rfl) (fun _ _ _ h => h) (Or.inl ⟨by rfl, ?_⟩) (by assumption) ?_
          rotate_left
          · (intro w hSw; (try dsimp only at hSw); go_simp; try with_reducible rfl)
          try simp only [Act.put, List.setIfInBounds_toArray, List.set_cons_zero, List.set_cons_succ]
          refine wpAnyH_take (i := 10) (oi := ({ dst := some 33, op := Go.Op.fieldAddr 37 (Go.Operand.tmp 6) 1, type := 0, pos := "tree.go:38", after := #[{ on := 9, ground := Go.Ground.guard }], guard := some (9, false) } : Oper)) (v := ?_) rfl (by kernel_rfl) (by kernel_rfl) (by kernel_rfl) (fun _ _ _ h => h) (Or.inl ⟨by rfl, ?_⟩) (by assumption) ?_
          rotate_left
          · (intro w hSw; (try dsimp only at hSw); go_simp; try with_reducible rfl)
          try simp only [Act.put, List.setIfInBounds_toArray, List.set_cons_zero, List.set_cons_succ]
          refine wpAnyH_take (i := 11) (oi := ({ dst := some 34, op := Go.Op.load 3 (Go.Operand.tmp 33), type := 3, pos := "tree.go:38", after := #[{ on := 10, ground := Go.Ground.data }, { on := 9, ground := Go.Ground.guard }], guard := some (9, false) } : Oper)) (v := ?_) rfl (by kernel_rfl) (by kernel_rfl) (by kernel_rfl) (fun _ _ _ h => h) (Or.inl ⟨by rfl, ?_⟩) (by assumption) ?_
          rotate_left
          · (intro w hSw; (try dsimp only at hSw); have c1 := hSw.2.1; go_simp; try with_reducible rfl)
          try simp only [Act.put, List.setIfInBounds_toArray, List.set_cons_zero, List.set_cons_succ]
          refine wpAnyH_take (i := 12) (oi := ({ dst := some 35, op := Go.Op.binOp Go.BinOp.gtr 3 (Go.Operand.tmp 34) (Go.Operand.const (Go.Value.int Go.IntKind.i64 3)) 3, type := 4, pos := "tree.go:38", after := #[{ on := 11, ground := Go.Ground.data }, { on := 9, ground := Go.Ground.guard }], guard := some (9, false) } : Oper)) (v := ?_) rfl (by kernel_rfl) (by kernel_rfl) (by kernel_rfl) (fun _ _ _ h => h) (Or.inl ⟨by rfl, ?_⟩) (by assumption) ?_
          rotate_left
          · (intro w hSw; (try dsimp only at hSw); go_simp; try with_reducible rfl)
          try simp only [Act.put, List.setIfInBounds_toArray, List.set_cons_zero, List.set_cons_succ]
          refine wpAnyH_take (i := 13) (oi := ({ dst := some 36, op := Go.Op.pick (Go.Operand.tmp 32) (Go.Operand.const (Go.Value.bool true)) (Go.Operand.tmp 35), type := 4, pos := "tree.go:38", after := #[{ on := 9, ground := Go.Ground.data }, { on := 12, ground := Go.Ground.data }], guard := none } : Oper)) (v := ?_) rfl (by kernel_rfl) (by kernel_rfl) (by kernel_rfl) (fun _ _ _ h => h) (Or.inl ⟨by rfl, ?_⟩) (by assumption) ?_
          rotate_left
          · (intro w hSw; (try dsimp only at hSw); go_simp; try with_reducible rfl)
          try simp only [Act.put, List.setIfInBounds_toArray, List.set_cons_zero, List.set_cons_succ]
          refine wpAnyH_take (i := 14) (oi := ({ dst := some 37, op := Go.Op.move (Go.Operand.tmp 36), type := 4, pos := "tree.go:38", after := #[{ on := 13, ground := Go.Ground.data }, { on := 9, ground := Go.Ground.chain }], guard := none } : Oper)) (v := ?_) rfl (by kernel_rfl) (by kernel_rfl) (by kernel_rfl) (fun _ _ _ h => h) (Or.inl ⟨by rfl, ?_⟩) (by assumption) ?_
          rotate_left
          · (intro w hSw; (try dsimp only at hSw); go_simp; try with_reducible rfl)
          try simp only [Act.put, List.setIfInBounds_toArray, List.set_cons_zero, List.set_cons_succ]
          refine wpAnyH_take (i := 15) (oi := ({ dst := some 38, op := Go.Op.move (Go.Operand.tmp 5), type := 3, pos := "tree.go:38", after := #[{ on := 14, ground := Go.Ground.guard }], guard := some (14, false) } : Oper)) (v := undef) rfl (by kernel_rfl) (by kernel_rfl) (by kernel_rfl) (fun _ _ _ h => h) (Or.inr ⟨by rfl, rfl⟩) (by assumption) ?_
          try simp only [Act.put, List.setIfInBounds_toArray, List.set_cons_zero, List.set_cons_succ]
          refine wpAnyH_take (i := 16) (oi := ({ dst := some 39, op := Go.Op.binOp Go.BinOp.gtr 3 (Go.Operand.tmp 38) (Go.Operand.const (Go.Value.int Go.IntKind.i64 0)) 3, type := 4, pos := "tree.go:38", after := #[{ on := 15, ground := Go.Ground.data }, { on := 14, ground := Go.Ground.guard }], guard := some (14, false) } : Oper)) (v := undef) rfl (by kernel_rfl) (by kernel_rfl) (by kernel_rfl) (fun _ _ _ h => h) (Or.inr ⟨by rfl, rfl⟩) (by assumption) ?_
          try simp only [Act.put, List.setIfInBounds_toArray, List.set_cons_zero, List.set_cons_succ]
          refine wpAnyH_take (i := 17) (oi := ({ dst := some 40, op := Go.Op.move (Go.Operand.tmp 39), type := 4, pos := "tree.go:38", after := #[{ on := 16, ground := Go.Ground.data }, { on := 14, ground := Go.Ground.chain }, { on := 14, ground := Go.Ground.guard }], guard := some (14, false) } : Oper)) (v := undef) rfl (by kernel_rfl) (by kernel_rfl) (by kernel_rfl) (fun _ _ _ h => h) (Or.inr ⟨by rfl, rfl⟩) (by assumption) ?_
          try simp only [Act.put, List.setIfInBounds_toArray, List.set_cons_zero, List.set_cons_succ]
          refine wpAnyH_take (i := 18) (oi := ({ dst := some 41, op := Go.Op.move (Go.Operand.tmp 0), type := 24, pos := "tree.go:38", after := #[{ on := 17, ground := Go.Ground.guard }], guard := some (17, true) } : Oper)) (v := undef) rfl (by kernel_rfl) (by kernel_rfl) (by kernel_rfl) (fun _ _ _ h => h) (Or.inr ⟨by rfl, rfl⟩) (by assumption) ?_
          try simp only [Act.put, List.setIfInBounds_toArray, List.set_cons_zero, List.set_cons_succ]
          refine wpAnyH_take (i := 19) (oi := ({ dst := some 42, op := Go.Op.move (Go.Operand.tmp 5), type := 3, pos := "tree.go:38", after := #[{ on := 17, ground := Go.Ground.guard }], guard := some (17, true) } : Oper)) (v := undef) rfl (by kernel_rfl) (by kernel_rfl) (by kernel_rfl) (fun _ _ _ h => h) (Or.inr ⟨by rfl, rfl⟩) (by assumption) ?_
          try simp only [Act.put, List.setIfInBounds_toArray, List.set_cons_zero, List.set_cons_succ]
          refine wpAnyH_take (i := 20) (oi := ({ dst := some 43, op := Go.Op.binOp Go.BinOp.sub 3 (Go.Operand.tmp 42) (Go.Operand.const (Go.Value.int Go.IntKind.i64 1)) 3, type := 3, pos := "tree.go:38", after := #[{ on := 19, ground := Go.Ground.data }, { on := 17, ground := Go.Ground.guard }], guard := some (17, true) } : Oper)) (v := undef) rfl (by kernel_rfl) (by kernel_rfl) (by kernel_rfl) (fun _ _ _ h => h) (Or.inr ⟨by rfl, rfl⟩) (by assumption) ?_
          try simp only [Act.put, List.setIfInBounds_toArray, List.set_cons_zero, List.set_cons_succ]
          refine wpAnyH_take (i := 21) (oi := ({ dst := some 44, op := Go.Op.indexAddr 24 (Go.Operand.tmp 41) (Go.Operand.tmp 43), type := 0, pos := "tree.go:38", after := #[{ on := 18, ground := Go.Ground.data }, { on := 20, ground := Go.Ground.data }, { on := 17, ground := Go.Ground.guard }], guard := some (17, true) } : Oper)) (v := undef) rfl (by kernel_rfl) (by kernel_rfl) (by kernel_rfl) (fun _ _ _ h => h) (Or.inr ⟨by rfl, rfl⟩) (by assumption) ?_
          try simp only [Act.put, List.setIfInBounds_toArray, List.set_cons_zero, List.set_cons_succ]
          refine wpAnyH_take (i := 22) (oi := ({ dst := some 45, op := Go.Op.fieldAddr 37 (Go.Operand.tmp 44) 0, type := 0, pos := "tree.go:38", after := #[{ on := 21, ground := Go.Ground.data }, { on := 17, ground := Go.Ground.guard }], guard := some (17, true) } : Oper)) (v := undef) rfl (by kernel_rfl) (by kernel_rfl) (by kernel_rfl) (fun _ _ _ h => h) (Or.inr ⟨by rfl, rfl⟩) (by assumption) ?_
          try simp only [Act.put, List.setIfInBounds_toArray, List.set_cons_zero, List.set_cons_succ]
          refine wpAnyH_take (i := 23) (oi := ({ dst := some 46, op := Go.Op.load 9 (Go.Operand.tmp 45), type := 9, pos := "tree.go:38", after := #[{ on := 22, ground := Go.Ground.data }, { on := 17, ground := Go.Ground.guard }], guard := some (17, true) } : Oper)) (v := undef) rfl (by kernel_rfl) (by kernel_rfl) (by kernel_rfl) (fun _ _ _ h => h) (Or.inr ⟨by rfl, rfl⟩) (by assumption) ?_
          try simp only [Act.put, List.setIfInBounds_toArray, List.set_cons_zero, List.set_cons_succ]
          refine wpAnyH_take (i := 24) (oi := ({ dst := some 47, op := Go.Op.fieldAddr 37 (Go.Operand.tmp 6) 0, type := 0, pos := "tree.go:38", after := #[{ on := 17, ground := Go.Ground.guard }], guard := some (17, true) } : Oper)) (v := undef) rfl (by kernel_rfl) (by kernel_rfl) (by kernel_rfl) (fun _ _ _ h => h) (Or.inr ⟨by rfl, rfl⟩) (by assumption) ?_
          try simp only [Act.put, List.setIfInBounds_toArray, List.set_cons_zero, List.set_cons_succ]
          refine wpAnyH_take (i := 25) (oi := ({ dst := some 48, op := Go.Op.load 9 (Go.Operand.tmp 47), type := 9, pos := "tree.go:38", after := #[{ on := 24, ground := Go.Ground.data }, { on := 17, ground := Go.Ground.guard }], guard := some (17, true) } : Oper)) (v := undef) rfl (by kernel_rfl) (by kernel_rfl) (by kernel_rfl) (fun _ _ _ h => h) (Or.inr ⟨by rfl, rfl⟩) (by assumption) ?_
          try simp only [Act.put, List.setIfInBounds_toArray, List.set_cons_zero, List.set_cons_succ]
          refine wpAnyH_take (i := 26) (oi := ({ dst := some 49, op := Go.Op.binOp Go.BinOp.geq 9 (Go.Operand.tmp 46) (Go.Operand.tmp 48) 9, type := 4, pos := "tree.go:38", after := #[{ on := 23, ground := Go.Ground.data }, { on := 25, ground := Go.Ground.data }, { on := 17, ground := Go.Ground.guard }], guard := some (17, true) } : Oper)) (v := undef) rfl (by kernel_rfl) (by kernel_rfl) (by kernel_rfl) (fun _ _ _ h => h) (Or.inr ⟨by rfl, rfl⟩) (by assumption) ?_
          try simp only [Act.put, List.setIfInBounds_toArray, List.set_cons_zero, List.set_cons_succ]
          refine wpAnyH_take (i := 27) (oi := ({ dst := some 50, op := Go.Op.pick (Go.Operand.tmp 40) (Go.Operand.tmp 49) (Go.Operand.const (Go.Value.bool false)), type := 4, pos := "tree.go:38", after := #[{ on := 17, ground := Go.Ground.data }, { on := 26, ground := Go.Ground.data }, { on := 14, ground := Go.Ground.guard }], guard := some (14, false) } : Oper)) (v := undef) rfl (by kernel_rfl) (by kernel_rfl) (by kernel_rfl) (fun _ _ _ h => h) (Or.inr ⟨by rfl, rfl⟩) (by assumption) ?_
          try simp only [Act.put, List.setIfInBounds_toArray, List.set_cons_zero, List.set_cons_succ]
          refine wpAnyH_take (i := 28) (oi := ({ dst := some 51, op := Go.Op.pick (Go.Operand.tmp 37) (Go.Operand.const (Go.Value.bool true)) (Go.Operand.tmp 50), type := 4, pos := "tree.go:38", after := #[{ on := 14, ground := Go.Ground.data }, { on := 27, ground := Go.Ground.data }], guard := none } : Oper)) (v := ?_) rfl (by kernel_rfl) (by kernel_rfl) (by kernel_rfl) (fun _ _ _ h => h) (Or.inl ⟨by rfl, ?_⟩) (by assumption) ?_
          rotate_left
          · (intro w hSw; (try dsimp only at hSw); go_simp; try with_reducible rfl)
          try simp only [Act.put, List.setIfInBounds_toArray, List.set_cons_zero, List.set_cons_succ]
          refine wpAnyH_done (by kernel_rfl) ?_ _
          refine NoPanic.normal ?_
          skip
          go_wp2_with fail
          go_returns
          obtain ⟨rfl, rfl⟩ := HNO.out (isT_no (stepE_no HEX.out (okE_kind (Or.inr (by rw [HKD.out]; exact p2)))) (by rw [HL.out]; exact HLT.out))
          exact GiveE.none (kk4.trans' hHeld1.2.2.2)
        have d2 : decide (3 < kd) = false := decide_eq_false p2
        have HOK := Lib.hid (okE_yes HV.out (by rw [HKD.out]; exact p1) (by rw [HKD.out]; exact p2))
        by_cases p3 : i = 0
        · subst p3
          have j0 : decide ((0 : Int) < ((0 : Nat) : Int)) = false := by decide
          have hS : SE W4 px x.name kd px 0 x.name W4 := ⟨cn, by simpa using ck, cn, Keep.refl _ _⟩
          obtain ⟨tb, htb⟩ : ∃ t, px = t := ⟨_, rfl⟩
          obtain ⟨tO, hto⟩ : ∃ t, (0 : Nat) = t := ⟨_, rfl⟩
          obtain ⟨tY, hty⟩ : ∃ t, x.name = t := ⟨_, rfl⟩
          replace hS : SE W4 px x.name kd tb tO tY W4 := by rw [← htb, ← hto, ← hty]; exact hS
          clear htb hto hty
          refine wp_region_noPanic ?_
          refine wp_region_held_drew (S := SE W4 px x.name kd tb tO tY) (by kernel_rfl) ?_ (fun hHeld0 => ?_)
          · (try dsimp only); first | exact SE.step hS ((Keep.refl [] _).drew) | exact SE.step (by assumption) hk
          refine wpAnyH_take (i := 0) (oi := ({ dst := some 23, op := Go.Op.fieldAddr 37 (Go.Operand.tmp 6) 0, type := 0, pos := "tree.go:38", after := #[], guard := none } : Oper)) (v := ?_) rfl (by kernel_rfl) (by kernel_rfl) (by kernel_rfl) (fun _ _ _ h => h) (Or.inl ⟨by rfl, ?_⟩) (by assumption) ?_
          rotate_left
          · (intro w hSw; (try dsimp only at hSw); go_simp; try with_reducible rfl)
          try simp only [Act.put, List.setIfInBounds_toArray, List.set_cons_zero, List.set_cons_succ]
          refine wpAnyH_take (i := 1) (oi := ({ dst := some 24, op := Go.Op.load 9 (Go.Operand.tmp 23), type := 9, pos := "tree.go:38", after := #[{ on := 0, ground := Go.Ground.data }], guard := none } : Oper)) (v := ?_) rfl (by kernel_rfl) (by kernel_rfl) (by kernel_rfl) (fun _ _ _ h => h) (Or.inl ⟨by rfl, ?_⟩) (by assumption) ?_
          rotate_left
          · (intro w hSw; (try dsimp only at hSw); have c1 := hSw.1; go_simp; try with_reducible rfl)
          try simp only [Act.put, List.setIfInBounds_toArray, List.set_cons_zero, List.set_cons_succ]
          refine wpAnyH_ready (rs := [2]) (by kernel_rfl) (by simp) ?_
          refine (AllReadyH.cons (o := ({ dst := some 25, op := Go.Op.call { callee := Go.Callee.value (Go.Operand.func 11), args := #[Go.Operand.tmp 24], argTypes := #[9] }, type := 4, pos := "tree.go:38", after := #[{ on := 1, ground := Go.Ground.data }], guard := none } : Oper)) rfl (fun K hK => ?_) AllReadyH.nil)
          go_simp
          (refine (CV.out _ (kk4.trans' ((Keep.refl [] W4).drew))).mono ?_; rintro e w' ⟨rfl, hk⟩)
          go_wp2_with fail
          refine hK.out _ _ ?_ (fun hHeld1 => ?_)
          · (try dsimp only); first | exact SE.step hS ((Keep.refl [] _).drew) | exact SE.step (by assumption) hk
          clear hK K
          try simp only [Act.put, List.setIfInBounds_toArray, List.set_cons_zero, List.set_cons_succ]
          refine wpAnyH_take (i := 3) (oi := ({ dst := some 26, op := Go.Op.unOp Go.UnOp.not 4 (Go.Operand.tmp 25), type := 4, pos := "tree.go:38", after := #[{ on := 2, ground := Go.Ground.data }], guard := none } : Oper)) (v := ?_) rfl (by kernel_rfl) (by kernel_rfl) (by kernel_rfl) (fun _ _ _ h => h) (Or.inl ⟨by rfl, ?_⟩) (by assumption) ?_
          rotate_left
          · (intro w hSw; (try dsimp only at hSw); go_simp; try with_reducible rfl)
          try simp only [Act.put, List.setIfInBounds_toArray, List.set_cons_zero, List.set_cons_succ]
          refine wpAnyH_take (i := 4) (oi := ({ dst := some 27, op := Go.Op.move (Go.Operand.tmp 26), type := 4, pos := "tree.go:38", after := #[{ on := 3, ground := Go.Ground.data }, { on := 2, ground := Go.Ground.chain }], guard := none } : Oper)) (v := ?_) rfl (by kernel_rfl) (by kernel_rfl) (by kernel_rfl) (fun _ _ _ h => h) (Or.inl ⟨by rfl, ?_⟩) (by assumption) ?_
          rotate_left
          · (intro w hSw; (try dsimp only at hSw); go_simp; try with_reducible rfl)
          try simp only [Act.put, List.setIfInBounds_toArray, List.set_cons_zero, List.set_cons_succ]
          refine wpAnyH_take (i := 5) (oi := ({ dst := some 28, op := Go.Op.fieldAddr 37 (Go.Operand.tmp 6) 1, type := 0, pos := "tree.go:38", after := #[{ on := 4, ground := Go.Ground.guard }], guard := some (4, false) } : Oper)) (v := ?_) rfl (by kernel_rfl) (by kernel_rfl) (by kernel_rfl) (fun _ _ _ h => h) (Or.inl ⟨by rfl, ?_⟩) (by assumption) ?_
          rotate_left
          · (intro w hSw; (try dsimp only at hSw); go_simp; try with_reducible rfl)
          try simp only [Act.put, List.setIfInBounds_toArray, List.set_cons_zero, List.set_cons_succ]
          refine wpAnyH_take (i := 6) (oi := ({ dst := some 29, op := Go.Op.load 3 (Go.Operand.tmp 28), type := 3, pos := "tree.go:38", after := #[{ on := 5, ground := Go.Ground.data }, { on := 4, ground := Go.Ground.guard }], guard := some (4, false) } : Oper)) (v := ?_) rfl (by kernel_rfl) (by kernel_rfl) (by kernel_rfl) (fun _ _ _ h => h) (Or.inl ⟨by rfl, ?_⟩) (by assumption) ?_
          rotate_left
          · (intro w hSw; (try dsimp only at hSw); have c1 := hSw.2.1; go_simp; try with_reducible rfl)
          try simp only [Act.put, List.setIfInBounds_toArray, List.set_cons_zero, List.set_cons_succ]
          refine wpAnyH_take (i := 7) (oi := ({ dst := some 30, op := Go.Op.binOp Go.BinOp.lss 3 (Go.Operand.tmp 29) (Go.Operand.const (Go.Value.int Go.IntKind.i64 1)) 3, type := 4, pos := "tree.go:38", after := #[{ on := 6, ground := Go.Ground.data }, { on := 4, ground := Go.Ground.guard }], guard := some (4, false) } : Oper)) (v := ?_) rfl (by kernel_rfl) (by kernel_rfl) (by kernel_rfl) (fun _ _ _ h => h) (Or.inl ⟨by rfl, ?_⟩) (by assumption) ?_
          rotate_left
          · (intro w hSw; (try dsimp only at hSw); go_simp; try with_reducible rfl)
          try simp only [Act.put, List.setIfInBounds_toArray, List.set_cons_zero, List.set_cons_succ]
          refine wpAnyH_take (i := 8) (oi := ({ dst := some 31, op := Go.Op.pick (Go.Operand.tmp 27) (Go.Operand.const (Go.Value.bool true)) (Go.Operand.tmp 30), type := 4, pos := "tree.go:38", after := #[{ on := 4, ground := Go.Ground.data }, { on := 7, ground := Go.Ground.data }], guard := none } : Oper)) (v := ?_) rfl (by kernel_rfl) (by kernel_rfl) (by kernel_rfl) (fun _ _ _ h => h) (Or.inl ⟨by rfl, ?_⟩) (by assumption) ?_
          rotate_left
          · (intro w hSw; (try dsimp only at hSw); go_simp; try with_reducible rfl)
          try simp only [Act.put, List.setIfInBounds_toArray, List.set_cons_zero, List.set_cons_succ]
          refine wpAnyH_take (i := 9) (oi := ({ dst := some 32, op := Go.Op.move (Go.Operand.tmp 31), type := 4, pos := "tree.go:38", after := #[{ on := 8, ground := Go.Ground.data }, { on := 4, ground := Go.Ground.chain }], guard := none } : Oper)) (v := ?_) rfl (by kernel_rfl) (by kernel_rfl) (by kernel_rfl) (fun _ _ _ h => h) (Or.inl ⟨by rfl, ?_⟩) (by assumption) ?_
          rotate_left
          · (intro w hSw; (try dsimp only at hSw); go_simp; try with_reducible rfl)
          try simp only [Act.put, List.setIfInBounds_toArray, List.set_cons_zero, List.set_cons_succ]
          refine wpAnyH_take (i := 10) (oi := ({ dst := some 33, op := Go.Op.fieldAddr 37 (Go.Operand.tmp 6) 1, type := 0, pos := "tree.go:38", after := #[{ on := 9, ground := Go.Ground.guard }], guard := some (9, false) } : Oper)) (v := ?_) rfl (by kernel_rfl) (by kernel_rfl) (by kernel_rfl) (fun _ _ _ h => h) (Or.inl ⟨by rfl, ?_⟩) (by assumption) ?_
          rotate_left
          · (intro w hSw; (try dsimp only at hSw); go_simp; try with_reducible rfl)
          try simp only [Act.put, List.setIfInBounds_toArray, List.set_cons_zero, List.set_cons_succ]
          refine wpAnyH_take (i := 11) (oi := ({ dst := some 34, op := Go.Op.load 3 (Go.Operand.tmp 33), type := 3, pos := "tree.go:38", after := #[{ on := 10, ground := Go.Ground.data }, { on := 9, ground := Go.Ground.guard }], guard := some (9, false) } : Oper)) (v := ?_) rfl (by kernel_rfl) (by kernel_rfl) (by kernel_rfl) (fun _ _ _ h => h) (Or.inl ⟨by rfl, ?_⟩) (by assumption) ?_
          rotate_left
          · (intro w hSw; (try dsimp only at hSw); have c1 := hSw.2.1; go_simp; try with_reducible rfl)
          try simp only [Act.put, List.setIfInBounds_toArray, List.set_cons_zero, List.set_cons_succ]
          refine wpAnyH_take (i := 12) (oi := ({ dst := some 35, op := Go.Op.binOp Go.BinOp.gtr 3 (Go.Operand.tmp 34) (Go.Operand.const (Go.Value.int Go.IntKind.i64 3)) 3, type := 4, pos := "tree.go:38", after := #[{ on := 11, ground := Go.Ground.data }, { on := 9, ground := Go.Ground.guard }], guard := some (9, false) } : Oper)) (v := ?_) rfl (by kernel_rfl) (by kernel_rfl) (by kernel_rfl) (fun _ _ _ h => h) (Or.inl ⟨by rfl, ?_⟩) (by assumption) ?_
          rotate_left
          · (intro w hSw; (try dsimp only at hSw); go_simp; try with_reducible rfl)
          try simp only [Act.put, List.setIfInBounds_toArray, List.set_cons_zero, List.set_cons_succ]
          refine wpAnyH_take (i := 13) (oi := ({ dst := some 36, op := Go.Op.pick (Go.Operand.tmp 32) (Go.Operand.const (Go.Value.bool true)) (Go.Operand.tmp 35), type := 4, pos := "tree.go:38", after := #[{ on := 9, ground := Go.Ground.data }, { on := 12, ground := Go.Ground.data }], guard := none } : Oper)) (v := ?_) rfl (by kernel_rfl) (by kernel_rfl) (by kernel_rfl) (fun _ _ _ h => h) (Or.inl ⟨by rfl, ?_⟩) (by assumption) ?_
          rotate_left
          · (intro w hSw; (try dsimp only at hSw); go_simp; try with_reducible rfl)
          try simp only [Act.put, List.setIfInBounds_toArray, List.set_cons_zero, List.set_cons_succ]
          refine wpAnyH_take (i := 14) (oi := ({ dst := some 37, op := Go.Op.move (Go.Operand.tmp 36), type := 4, pos := "tree.go:38", after := #[{ on := 13, ground := Go.Ground.data }, { on := 9, ground := Go.Ground.chain }], guard := none } : Oper)) (v := ?_) rfl (by kernel_rfl) (by kernel_rfl) (by kernel_rfl) (fun _ _ _ h => h) (Or.inl ⟨by rfl, ?_⟩) (by assumption) ?_
          rotate_left
          · (intro w hSw; (try dsimp only at hSw); go_simp; try with_reducible rfl)
          try simp only [Act.put, List.setIfInBounds_toArray, List.set_cons_zero, List.set_cons_succ]
          refine wpAnyH_take (i := 15) (oi := ({ dst := some 38, op := Go.Op.move (Go.Operand.tmp 5), type := 3, pos := "tree.go:38", after := #[{ on := 14, ground := Go.Ground.guard }], guard := some (14, false) } : Oper)) (v := ?_) rfl (by kernel_rfl) (by kernel_rfl) (by kernel_rfl) (fun _ _ _ h => h) (Or.inl ⟨by rfl, ?_⟩) (by assumption) ?_
          rotate_left
          · (intro w hSw; (try dsimp only at hSw); go_simp; try with_reducible rfl)
          try simp only [Act.put, List.setIfInBounds_toArray, List.set_cons_zero, List.set_cons_succ]
          refine wpAnyH_take (i := 16) (oi := ({ dst := some 39, op := Go.Op.binOp Go.BinOp.gtr 3 (Go.Operand.tmp 38) (Go.Operand.const (Go.Value.int Go.IntKind.i64 0)) 3, type := 4, pos := "tree.go:38", after := #[{ on := 15, ground := Go.Ground.data }, { on := 14, ground := Go.Ground.guard }], guard := some (14, false) } : Oper)) (v := ?_) rfl (by kernel_rfl) (by kernel_rfl) (by kernel_rfl) (fun _ _ _ h => h) (Or.inl ⟨by rfl, ?_⟩) (by assumption) ?_
          rotate_left
          · (intro w hSw; (try dsimp only at hSw); go_simp; try with_reducible rfl)
          try simp only [Act.put, List.setIfInBounds_toArray, List.set_cons_zero, List.set_cons_succ]
          refine wpAnyH_take (i := 17) (oi := ({ dst := some 40, op := Go.Op.move (Go.Operand.tmp 39), type := 4, pos := "tree.go:38", after := #[{ on := 16, ground := Go.Ground.data }, { on := 14, ground := Go.Ground.chain }, { on := 14, ground := Go.Ground.guard }], guard := some (14, false) } : Oper)) (v := ?_) rfl (by kernel_rfl) (by kernel_rfl) (by kernel_rfl) (fun _ _ _ h => h) (Or.inl ⟨by rfl, ?_⟩) (by assumption) ?_
          rotate_left
          · (intro w hSw; (try dsimp only at hSw); go_simp; try with_reducible rfl)
          try simp only [Act.put, List.setIfInBounds_toArray, List.set_cons_zero, List.set_cons_succ]
          refine wpAnyH_take (i := 18) (oi := ({ dst := some 41, op := Go.Op.move (Go.Operand.tmp 0), type := 24, pos := "tree.go:38", after := #[{ on := 17, ground := Go.Ground.guard }], guard := some (17, true) } : Oper)) (v := undef) rfl (by kernel_rfl) (by kernel_rfl) (by kernel_rfl) (fun _ _ _ h => h) (Or.inr ⟨by rfl, rfl⟩) (by assumption) ?_
          try simp only [Act.put, List.setIfInBounds_toArray, List.set_cons_zero, List.set_cons_succ]
          refine wpAnyH_take (i := 19) (oi := ({ dst := some 42, op := Go.Op.move (Go.Operand.tmp 5), type := 3, pos := "tree.go:38", after := #[{ on := 17, ground := Go.Ground.guard }], guard := some (17, true) } : Oper)) (v := undef) rfl (by kernel_rfl) (by kernel_rfl) (by kernel_rfl) (fun _ _ _ h => h) (Or.inr ⟨by rfl, rfl⟩) (by assumption) ?_
          try simp only [Act.put, List.setIfInBounds_toArray, List.set_cons_zero, List.set_cons_succ]
          refine wpAnyH_take (i := 20) (oi := ({ dst := some 43, op := Go.Op.binOp Go.BinOp.sub 3 (Go.Operand.tmp 42) (Go.Operand.const (Go.Value.int Go.IntKind.i64 1)) 3, type := 3, pos := "tree.go:38", after := #[{ on := 19, ground := Go.Ground.data }, { on := 17, ground := Go.Ground.guard }], guard := some (17, true) } : Oper)) (v := undef) rfl (by kernel_rfl) (by kernel_rfl) (by kernel_rfl) (fun _ _ _ h => h) (Or.inr ⟨by rfl, rfl⟩) (by assumption) ?_
          try simp only [Act.put, List.setIfInBounds_toArray, List.set_cons_zero, List.set_cons_succ]
          refine wpAnyH_take (i := 21) (oi := ({ dst := some 44, op := Go.Op.indexAddr 24 (Go.Operand.tmp 41) (Go.Operand.tmp 43), type := 0, pos := "tree.go:38", after := #[{ on := 18, ground := Go.Ground.data }, { on := 20, ground := Go.Ground.data }, { on := 17, ground := Go.Ground.guard }], guard := some (17, true) } : Oper)) (v := undef) rfl (by kernel_rfl) (by kernel_rfl) (by kernel_rfl) (fun _ _ _ h => h) (Or.inr ⟨by rfl, rfl⟩) (by assumption) ?_
          try simp only [Act.put, List.setIfInBounds_toArray, List.set_cons_zero, List.set_cons_succ]
          refine wpAnyH_take (i := 22) (oi := ({ dst := some 45, op := Go.Op.fieldAddr 37 (Go.Operand.tmp 44) 0, type := 0, pos := "tree.go:38", after := #[{ on := 21, ground := Go.Ground.data }, { on := 17, ground := Go.Ground.guard }], guard := some (17, true) } : Oper)) (v := undef) rfl (by kernel_rfl) (by kernel_rfl) (by kernel_rfl) (fun _ _ _ h => h) (Or.inr ⟨by rfl, rfl⟩) (by assumption) ?_
          try simp only [Act.put, List.setIfInBounds_toArray, List.set_cons_zero, List.set_cons_succ]
          refine wpAnyH_take (i := 23) (oi := ({ dst := some 46, op := Go.Op.load 9 (Go.Operand.tmp 45), type := 9, pos := "tree.go:38", after := #[{ on := 22, ground := Go.Ground.data }, { on := 17, ground := Go.Ground.guard }], guard := some (17, true) } : Oper)) (v := undef) rfl (by kernel_rfl) (by kernel_rfl) (by kernel_rfl) (fun _ _ _ h => h) (Or.inr ⟨by rfl, rfl⟩) (by assumption) ?_
          try simp only [Act.put, List.setIfInBounds_toArray, List.set_cons_zero, List.set_cons_succ]
          refine wpAnyH_take (i := 24) (oi := ({ dst := some 47, op := Go.Op.fieldAddr 37 (Go.Operand.tmp 6) 0, type := 0, pos := "tree.go:38", after := #[{ on := 17, ground := Go.Ground.guard }], guard := some (17, true) } : Oper)) (v := undef) rfl (by kernel_rfl) (by kernel_rfl) (by kernel_rfl) (fun _ _ _ h => h) (Or.inr ⟨by rfl, rfl⟩) (by assumption) ?_
          try simp only [Act.put, List.setIfInBounds_toArray, List.set_cons_zero, List.set_cons_succ]
          refine wpAnyH_take (i := 25) (oi := ({ dst := some 48, op := Go.Op.load 9 (Go.Operand.tmp 47), type := 9, pos := "tree.go:38", after := #[{ on := 24, ground := Go.Ground.data }, { on := 17, ground := Go.Ground.guard }], guard := some (17, true) } : Oper)) (v := undef) rfl (by kernel_rfl) (by kernel_rfl) (by kernel_rfl) (fun _ _ _ h => h) (Or.inr ⟨by rfl, rfl⟩) (by assumption) ?_
          try simp only [Act.put, List.setIfInBounds_toArray, List.set_cons_zero, List.set_cons_succ]
          refine wpAnyH_take (i := 26) (oi := ({ dst := some 49, op := Go.Op.binOp Go.BinOp.geq 9 (Go.Operand.tmp 46) (Go.Operand.tmp 48) 9, type := 4, pos := "tree.go:38", after := #[{ on := 23, ground := Go.Ground.data }, { on := 25, ground := Go.Ground.data }, { on := 17, ground := Go.Ground.guard }], guard := some (17, true) } : Oper)) (v := undef) rfl (by kernel_rfl) (by kernel_rfl) (by kernel_rfl) (fun _ _ _ h => h) (Or.inr ⟨by rfl, rfl⟩) (by assumption) ?_
          try simp only [Act.put, List.setIfInBounds_toArray, List.set_cons_zero, List.set_cons_succ]
          refine wpAnyH_take (i := 27) (oi := ({ dst := some 50, op := Go.Op.pick (Go.Operand.tmp 40) (Go.Operand.tmp 49) (Go.Operand.const (Go.Value.bool false)), type := 4, pos := "tree.go:38", after := #[{ on := 17, ground := Go.Ground.data }, { on := 26, ground := Go.Ground.data }, { on := 14, ground := Go.Ground.guard }], guard := some (14, false) } : Oper)) (v := ?_) rfl (by kernel_rfl) (by kernel_rfl) (by kernel_rfl) (fun _ _ _ h => h) (Or.inl ⟨by rfl, ?_⟩) (by assumption) ?_
          rotate_left
          · (intro w hSw; (try dsimp only at hSw); go_simp; try with_reducible rfl)
          try simp only [Act.put, List.setIfInBounds_toArray, List.set_cons_zero, List.set_cons_succ]
          refine wpAnyH_take (i := 28) (oi := ({ dst := some 51, op := Go.Op.pick (Go.Operand.tmp 37) (Go.Operand.const (Go.Value.bool true)) (Go.Operand.tmp 50), type := 4, pos := "tree.go:38", after := #[{ on := 14, ground := Go.Ground.data }, { on := 27, ground := Go.Ground.data }], guard := none } : Oper)) (v := ?_) rfl (by kernel_rfl) (by kernel_rfl) (by kernel_rfl) (fun _ _ _ h => h) (Or.inl ⟨by rfl, ?_⟩) (by assumption) ?_
          rotate_left
          · (intro w hSw; (try dsimp only at hSw); go_simp; try with_reducible rfl)
          try simp only [Act.put, List.setIfInBounds_toArray, List.set_cons_zero, List.set_cons_succ]
          refine wpAnyH_done (by kernel_rfl) ?_ _
          refine NoPanic.normal ?_
          skip
          have kx := hHeld1.2.2.2
          have hWr5 := hWr4.keep kx (by simp)
          have rX5 := rangeAt_keep rX kx (by simp)
          have kk5 := kk4.trans' kx
          have cn5 := hHeld1.1
          have ck5 := hHeld1.2.1
          have OK := okE_of HOK.out
          obtain ⟨kn, hkn⟩ : ∃ k : Nat, kd = k := ⟨kd.toNat, by have := OK.k1; rw [HKD.out] at this; omega⟩
          have kn3 : kn ≤ 3 := by have := OK.k3; rw [HKD.out, hkn] at this; omega
          obtain ⟨nm, hnm2⟩ : ∃ s, x.name = s := ⟨_, rfl⟩
          rw [hnm2] at cn5
          rw [hkn] at ck5
          have hsz : nm.size ≤ 32 := by rw [← hnm2]; exact OK.sz
          have HSTEP := Lib.hid (show esTo l (0 + 1) = true by rw [esTo_succ, HO.out]; exact stepE_first HEX.out HOK.out)
          have HE := Lib.hid (show encTo l (0 + 1) = encTo l 0 ++ ([UInt8.ofNat kn] ++ (([UInt8.ofNat nm.size] ++ nm.data.toList) ++ x.id)) by rw [encTo_next HEX.out, entB, HKD.out, hkn, hnm2]; simp)
          have hdl : (encTo l 0).length ≤ 2114 := by
            have h1 : (l.take 0).length ≤ 32 := by have := HL.out; rw [List.length_take]; omega
            have h2 : ∀ y ∈ l.take 0, y.name.size ≤ 32 := fun y hy => by
              obtain ⟨q, hq, e⟩ := List.mem_iff_getElem.1 hy
              rw [List.length_take] at hq
              rw [List.getElem_take] at e
              have hst : stepE l q = true := by
                cases hs : stepE l q with
                | true => rfl
                | false => have := HO.out; rw [esTo_no hs (by omega)] at this; cases this
              cases ho : okE y with
              | true => exact (okE_of ho).sz
              | false => rw [stepE_no (by rw [List.getElem?_eq_getElem (by omega), e]) ho] at hst; cases hst
            have h3 := flat_le h2
            unfold encTo; rw [List.length_append]; simp only [List.length_cons, List.length_nil]; omega
          obtain ⟨d, hd⟩ : ∃ d, encTo l 0 = d := ⟨_, rfl⟩
          rw [hd] at hWr5 hdl
          have HD := Lib.hid hd
          clear hd hnm2 hkn hHeld0 hHeld1 OK hWr4 rX cn ck k1 kx kk4 HOK HO
          have hfx : isFix (kn : Int) 1 = true := by simp [isFix]; omega
          have hR1 := fixed_any P S false d kn 1 _ hWr5 (by simp [Lit.wf, IntKind.min, IntKind.max, IntKind.signed, IntKind.bits]; omega) (by omega)
          rw [hfx] at hR1
          simp only [Bool.not_true, Bool.or_false, putD, Bool.false_eq_true, if_false] at hR1
          rw [show fixB (kn : Int).toNat (1 : Int).toNat = [UInt8.ofNat kn] by simp [fixB]] at hR1
          have HR1 := Lib.hid hR1
          clear hR1 hfx
          go_upto_region 12 with (first
            | (go_at_call 31; refine HR1.out.mono ?_; rintro e w6 ⟨rfl, ⟨S6, hW6, hf6⟩, hk6⟩)
            | fail)
          have hpS6 : px ∉ S6 := fun h => by
            rcases hf6 _ h with h | h
            · exact hpS h
            · have hq : px < w'.heap.size := World.block_lt_of_cell? _ (a := ⟨px, 0, none⟩) cn5; omega
          have rX6 := rangeAt_keep rX5 hk6 hpS
          have cn6 := hk6.cell cn5 hpS
          have hF6 : Fr w [] S6 := hF.trans hf6 kk5.size
          have kk6 : Keep [] w w6 := kk5.trans hk6 (fun b hb => by rcases hF b hb with h | h; cases h; exact Or.inr h)
          clear HR1 hk6 hf6 hWr5 rX5 cn5 ck5
          have hcv : ∀ W, (convert 9 26 (.string nm)).run Tryd.prog W = _ := fun W => bytes_of W nm
          obtain ⟨cp, hcp⟩ : ∃ c, grownCap w6 nm.size 0 5 = c := ⟨_, rfl⟩
          obtain ⟨w7, hw7⟩ : ∃ W, w6.drew.alloc (.cells (bytesRow nm cp) 5 ((bytesRow nm cp).size, (bytesRow nm cp).size + 1)) = W := ⟨_, rfl⟩
          obtain ⟨q6, hq6⟩ : ∃ q, w6.heap.size = q := ⟨_, rfl⟩
          have rdn : Rd w7 (some ⟨q6, 0, none⟩) (bs nm.data.toList) := by rw [← hw7]; exact rd_row _ _ _ _ _ (by rw [← hq6]; rfl)
          have k7 : Keep [] w6 w7 := by rw [← hw7]; exact (Keep.refl [] w6).drew.alloc _
          have hW7 := hW6.keep k7 (by simp)
          have hqS : q6 ∉ S6 := fun h => by have := hW6.lt _ h; omega
          have hq7 : q6 < w7.heap.size := by rw [← hw7, ← hq6]; show w6.heap.size < (w6.drew.alloc _).heap.size; simp
          have HR2 := Lib.hid (text_any P S6 false (d ++ [UInt8.ofNat kn]) nm.data.toList (some ⟨q6, 0, none⟩) nm.size cp w7 hW7 (name_len nm) (fun h => by cases h) rdn (fun _ => hqS) (by rw [List.length_append]; simp only [List.length_cons, List.length_nil]; omega) (by omega) (fun _ => hq7))
          have rX7 := rangeAt_keep rX6 k7 (by simp)
          have kk7 := kk6.trans' k7
          have HCV : Hid ((convert 9 26 (.string nm)).run Tryd.prog w6 = .ok (.slice (some ⟨q6, 0, none⟩) nm.size cp) w7) := Lib.hid (by rw [hcv, hcp, hq6, hw7])
          clear hcv hcp hw7 hq6 rdn k7 hW6 rX6 kk6
          have hcv := HCV.out
          go_upto_region 13 with (first
            | (go_at_call 33; refine HR2.out.mono ?_; rintro e w8 ⟨rfl, ⟨S8, hW8, hf8⟩, hk8⟩)
            | fail)
          have hpS8 : px ∉ S8 := fun h => by
            rcases hf8 _ h with h | h
            · exact hpS6 h
            · have hq : px < w7.heap.size := World.block_lt_of_cell? _ (a := ⟨px, 0 + 0, none⟩) (rX7 0 _ rfl); omega
          have rX8 := rangeAt_keep rX7 hk8 hpS6
          have hF8 : Fr w [] S8 := hF6.trans hf8 kk7.size
          have kk8 : Keep [] w w8 := kk7.trans hk8 (fun b hb => by rcases hF6 b hb with h | h; cases h; exact Or.inr h)
          simp only [putD, Bool.false_eq_true, if_false] at hW8
          clear HR2 hk8 hf8 hW7 rX7 hcv HCV
          have htl : textB nm.data.toList = [UInt8.ofNat nm.size] ++ nm.data.toList := by rw [textB, name_len, numB_small (by omega)]
          rw [htl] at hW8
          have HR3 := Lib.hid (raw_any P S8 false (d ++ [UInt8.ofNat kn] ++ ([UInt8.ofNat nm.size] ++ nm.data.toList)) x.id (some ⟨px, 2, none⟩) 32 32 w8 hW8 x.li (fun h => by cases h) (Rd.range (by have := rangeAt_id rX8; simpa using this)) (fun _ => hpP) (by simp only [List.length_append, List.length_cons, List.length_nil, name_len]; omega))
          go_wp2_with (first
            | (go_at_call 34; refine HR3.out.mono ?_; rintro e w9 ⟨rfl, ⟨S9, hW9, hf9⟩, hk9⟩)
            | fail)
          simp only [putD, Bool.false_eq_true, if_false] at hW9
          refine ⟨⟨0 + 1, S9, by omega, by go_num, HSTEP, ?_, hF8.trans hf9 kk8.size, kk8.trans hk9 (fun b hb => by rcases hF8 b hb with h | h; cases h; exact Or.inr h)⟩, by simp [intOf]; omega⟩
          rw [HE.out, HD.out]
          simpa [List.append_assoc] using hW9
        obtain ⟨j, rfl⟩ : ∃ j, i = j + 1 := ⟨i - 1, by omega⟩
        obtain ⟨y, b2, off2, ey, eb, ry⟩ := (hx.keep kk4 (by simp)).at (i := j) (by omega)
        obtain ⟨rfl, rfl⟩ : b = b2 ∧ off = off2 := by simpa using eb
        have cy := rangeAt_name ry
        rw [HN.out] at cy
        have HEY := Lib.hid ey
        have j1 : decide ((0 : Int) < ((j + 1 : Nat) : Int)) = true := decide_eq_true (by omega)
        have j8 : decide ((0 : Int) < (j : Int) + 1) = true := decide_eq_true (by omega)
        have j2 : IntKind.i64.wrap (((j + 1 : Nat) : Int) - 1) = (j : Nat) := by rw [IntWalk.i64_in _ (by omega)]; omega
        have j3 : wrap64 (((j + 1 : Nat) : Int) - 1) = (j : Nat) := by unfold wrap64; omega
        have j4 : ((j + 1 : Nat) : Int) - 1 = (j : Nat) := by omega
        have j5 : (j : Int) < n := by omega
        have j6 : (0 : Int) ≤ j := by omega
        have j7 : (j : Int) + 1 - 1 = j := by omega
        have j9 : IntKind.i64.wrap (j : Int) = (j : Int) := IntWalk.i64_in _ (by omega)
        obtain ⟨t, ht⟩ : ∃ t, y.name = t := ⟨_, rfl⟩
        rw [ht] at cy
        have hS : SE W4 px x.name kd b (off + j * N) t W4 := ⟨cn, by simpa using ck, cy, Keep.refl _ _⟩
        have HTY := Lib.hid ht
        clear ey eb ry ht
        cases hlt2 : Op.bytesLess t.toList x.name.toList with
        | false =>
          have HLE := Lib.hid hlt2
          refine wp_region_noPanic ?_
          refine wp_region_held_drew (S := SE W4 px x.name kd b (off + j * N) t) (by kernel_rfl) ?_ (fun hHeld0 => ?_)
          · (try dsimp only); first | exact SE.step hS ((Keep.refl [] _).drew) | exact SE.step (by assumption) hk
          refine wpAnyH_take (i := 0) (oi := ({ dst := some 23, op := Go.Op.fieldAddr 37 (Go.Operand.tmp 6) 0, type := 0, pos := "tree.go:38", after := #[], guard := none } : Oper)) (v := ?_) rfl (by kernel_rfl) (by kernel_rfl) (by kernel_rfl) (fun _ _ _ h => h) (Or.inl ⟨by rfl, ?_⟩) (by assumption) ?_
          rotate_left
          · (intro w hSw; (try dsimp only at hSw); go_simp; try with_reducible rfl)
          try simp only [Act.put, List.setIfInBounds_toArray, List.set_cons_zero, List.set_cons_succ]
          refine wpAnyH_take (i := 1) (oi := ({ dst := some 24, op := Go.Op.load 9 (Go.Operand.tmp 23), type := 9, pos := "tree.go:38", after := #[{ on := 0, ground := Go.Ground.data }], guard := none } : Oper)) (v := ?_) rfl (by kernel_rfl) (by kernel_rfl) (by kernel_rfl) (fun _ _ _ h => h) (Or.inl ⟨by rfl, ?_⟩) (by assumption) ?_
          rotate_left
          · (intro w hSw; (try dsimp only at hSw); have c1 := hSw.1; go_simp; try with_reducible rfl)
          try simp only [Act.put, List.setIfInBounds_toArray, List.set_cons_zero, List.set_cons_succ]
          refine wpAnyH_ready (rs := [2]) (by kernel_rfl) (by simp) ?_
          refine (AllReadyH.cons (o := ({ dst := some 25, op := Go.Op.call { callee := Go.Callee.value (Go.Operand.func 11), args := #[Go.Operand.tmp 24], argTypes := #[9] }, type := 4, pos := "tree.go:38", after := #[{ on := 1, ground := Go.Ground.data }], guard := none } : Oper)) rfl (fun K hK => ?_) AllReadyH.nil)
          go_simp
          (refine (CV.out _ (kk4.trans' ((Keep.refl [] W4).drew))).mono ?_; rintro e w' ⟨rfl, hk⟩)
          go_wp2_with fail
          refine hK.out _ _ ?_ (fun hHeld1 => ?_)
          · (try dsimp only); first | exact SE.step hS ((Keep.refl [] _).drew) | exact SE.step (by assumption) hk
          clear hK K
          try simp only [Act.put, List.setIfInBounds_toArray, List.set_cons_zero, List.set_cons_succ]
          refine wpAnyH_take (i := 3) (oi := ({ dst := some 26, op := Go.Op.unOp Go.UnOp.not 4 (Go.Operand.tmp 25), type := 4, pos := "tree.go:38", after := #[{ on := 2, ground := Go.Ground.data }], guard := none } : Oper)) (v := ?_) rfl (by kernel_rfl) (by kernel_rfl) (by kernel_rfl) (fun _ _ _ h => h) (Or.inl ⟨by rfl, ?_⟩) (by assumption) ?_
          rotate_left
          · (intro w hSw; (try dsimp only at hSw); go_simp; try with_reducible rfl)
          try simp only [Act.put, List.setIfInBounds_toArray, List.set_cons_zero, List.set_cons_succ]
          refine wpAnyH_take (i := 4) (oi := ({ dst := some 27, op := Go.Op.move (Go.Operand.tmp 26), type := 4, pos := "tree.go:38", after := #[{ on := 3, ground := Go.Ground.data }, { on := 2, ground := Go.Ground.chain }], guard := none } : Oper)) (v := ?_) rfl (by kernel_rfl) (by kernel_rfl) (by kernel_rfl) (fun _ _ _ h => h) (Or.inl ⟨by rfl, ?_⟩) (by assumption) ?_
          rotate_left
          · (intro w hSw; (try dsimp only at hSw); go_simp; try with_reducible rfl)
          try simp only [Act.put, List.setIfInBounds_toArray, List.set_cons_zero, List.set_cons_succ]
          refine wpAnyH_take (i := 5) (oi := ({ dst := some 28, op := Go.Op.fieldAddr 37 (Go.Operand.tmp 6) 1, type := 0, pos := "tree.go:38", after := #[{ on := 4, ground := Go.Ground.guard }], guard := some (4, false) } : Oper)) (v := ?_) rfl (by kernel_rfl) (by kernel_rfl) (by kernel_rfl) (fun _ _ _ h => h) (Or.inl ⟨by rfl, ?_⟩) (by assumption) ?_
          rotate_left
          · (intro w hSw; (try dsimp only at hSw); go_simp; try with_reducible rfl)
          try simp only [Act.put, List.setIfInBounds_toArray, List.set_cons_zero, List.set_cons_succ]
          refine wpAnyH_take (i := 6) (oi := ({ dst := some 29, op := Go.Op.load 3 (Go.Operand.tmp 28), type := 3, pos := "tree.go:38", after := #[{ on := 5, ground := Go.Ground.data }, { on := 4, ground := Go.Ground.guard }], guard := some (4, false) } : Oper)) (v := ?_) rfl (by kernel_rfl) (by kernel_rfl) (by kernel_rfl) (fun _ _ _ h => h) (Or.inl ⟨by rfl, ?_⟩) (by assumption) ?_
          rotate_left
          · (intro w hSw; (try dsimp only at hSw); have c1 := hSw.2.1; go_simp; try with_reducible rfl)
          try simp only [Act.put, List.setIfInBounds_toArray, List.set_cons_zero, List.set_cons_succ]
          refine wpAnyH_take (i := 7) (oi := ({ dst := some 30, op := Go.Op.binOp Go.BinOp.lss 3 (Go.Operand.tmp 29) (Go.Operand.const (Go.Value.int Go.IntKind.i64 1)) 3, type := 4, pos := "tree.go:38", after := #[{ on := 6, ground := Go.Ground.data }, { on := 4, ground := Go.Ground.guard }], guard := some (4, false) } : Oper)) (v := ?_) rfl (by kernel_rfl) (by kernel_rfl) (by kernel_rfl) (fun _ _ _ h => h) (Or.inl ⟨by rfl, ?_⟩) (by assumption) ?_
          rotate_left
          · (intro w hSw; (try dsimp only at hSw); go_simp; try with_reducible rfl)
          try simp only [Act.put, List.setIfInBounds_toArray, List.set_cons_zero, List.set_cons_succ]
          refine wpAnyH_take (i := 8) (oi := ({ dst := some 31, op := Go.Op.pick (Go.Operand.tmp 27) (Go.Operand.const (Go.Value.bool true)) (Go.Operand.tmp 30), type := 4, pos := "tree.go:38", after := #[{ on := 4, ground := Go.Ground.data }, { on := 7, ground := Go.Ground.data }], guard := none } : Oper)) (v := ?_) rfl (by kernel_rfl) (by kernel_rfl) (by kernel_rfl) (fun _ _ _ h => h) (Or.inl ⟨by rfl, ?_⟩) (by assumption) ?_
          rotate_left
          · (intro w hSw; (try dsimp only at hSw); go_simp; try with_reducible rfl)
          try simp only [Act.put, List.setIfInBounds_toArray, List.set_cons_zero, List.set_cons_succ]
          refine wpAnyH_take (i := 9) (oi := ({ dst := some 32, op := Go.Op.move (Go.Operand.tmp 31), type := 4, pos := "tree.go:38", after := #[{ on := 8, ground := Go.Ground.data }, { on := 4, ground := Go.Ground.chain }], guard := none } : Oper)) (v := ?_) rfl (by kernel_rfl) (by kernel_rfl) (by kernel_rfl) (fun _ _ _ h => h) (Or.inl ⟨by rfl, ?_⟩) (by assumption) ?_
          rotate_left
          · (intro w hSw; (try dsimp only at hSw); go_simp; try with_reducible rfl)
          try simp only [Act.put, List.setIfInBounds_toArray, List.set_cons_zero, List.set_cons_succ]
          refine wpAnyH_take (i := 10) (oi := ({ dst := some 33, op := Go.Op.fieldAddr 37 (Go.Operand.tmp 6) 1, type := 0, pos := "tree.go:38", after := #[{ on := 9, ground := Go.Ground.guard }], guard := some (9, false) } : Oper)) (v := ?_) rfl (by kernel_rfl) (by kernel_rfl) (by kernel_rfl) (fun _ _ _ h => h) (Or.inl ⟨by rfl, ?_⟩) (by assumption) ?_
          rotate_left
          · (intro w hSw; (try dsimp only at hSw); go_simp; try with_reducible rfl)
          try simp only [Act.put, List.setIfInBounds_toArray, List.set_cons_zero, List.set_cons_succ]
          refine wpAnyH_take (i := 11) (oi := ({ dst := some 34, op := Go.Op.load 3 (Go.Operand.tmp 33), type := 3, pos := "tree.go:38", after := #[{ on := 10, ground := Go.Ground.data }, { on := 9, ground := Go.Ground.guard }], guard := some (9, false) } : Oper)) (v := ?_) rfl (by kernel_rfl) (by kernel_rfl) (by kernel_rfl) (fun _ _ _ h => h) (Or.inl ⟨by rfl, ?_⟩) (by assumption) ?_
          rotate_left
          · (intro w hSw; (try dsimp only at hSw); have c1 := hSw.2.1; go_simp; try with_reducible rfl)
          try simp only [Act.put, List.setIfInBounds_toArray, List.set_cons_zero, List.set_cons_succ]
          refine wpAnyH_take (i := 12) (oi := ({ dst := some 35, op := Go.Op.binOp Go.BinOp.gtr 3 (Go.Operand.tmp 34) (Go.Operand.const (Go.Value.int Go.IntKind.i64 3)) 3, type := 4, pos := "tree.go:38", after := #[{ on := 11, ground := Go.Ground.data }, { on := 9, ground := Go.Ground.guard }], guard := some (9, false) } : Oper)) (v := ?_) rfl (by kernel_rfl) (by kernel_rfl) (by kernel_rfl) (fun _ _ _ h => h) (Or.inl ⟨by rfl, ?_⟩) (by assumption) ?_
          rotate_left
          · (intro w hSw; (try dsimp only at hSw); go_simp; try with_reducible rfl)
          try simp only [Act.put, List.setIfInBounds_toArray, List.set_cons_zero, List.set_cons_succ]
          refine wpAnyH_take (i := 13) (oi := ({ dst := some 36, op := Go.Op.pick (Go.Operand.tmp 32) (Go.Operand.const (Go.Value.bool true)) (Go.Operand.tmp 35), type := 4, pos := "tree.go:38", after := #[{ on := 9, ground := Go.Ground.data }, { on := 12, ground := Go.Ground.data }], guard := none } : Oper)) (v := ?_) rfl (by kernel_rfl) (by kernel_rfl) (by kernel_rfl) (fun _ _ _ h => h) (Or.inl ⟨by rfl, ?_⟩) (by assumption) ?_
          rotate_left
          · (intro w hSw; (try dsimp only at hSw); go_simp; try with_reducible rfl)
          try simp only [Act.put, List.setIfInBounds_toArray, List.set_cons_zero, List.set_cons_succ]
          refine wpAnyH_take (i := 14) (oi := ({ dst := some 37, op := Go.Op.move (Go.Operand.tmp 36), type := 4, pos := "tree.go:38", after := #[{ on := 13, ground := Go.Ground.data }, { on := 9, ground := Go.Ground.chain }], guard := none } : Oper)) (v := ?_) rfl (by kernel_rfl) (by kernel_rfl) (by kernel_rfl) (fun _ _ _ h => h) (Or.inl ⟨by rfl, ?_⟩) (by assumption) ?_
          rotate_left
          · (intro w hSw; (try dsimp only at hSw); go_simp; try with_reducible rfl)
          try simp only [Act.put, List.setIfInBounds_toArray, List.set_cons_zero, List.set_cons_succ]
          refine wpAnyH_take (i := 15) (oi := ({ dst := some 38, op := Go.Op.move (Go.Operand.tmp 5), type := 3, pos := "tree.go:38", after := #[{ on := 14, ground := Go.Ground.guard }], guard := some (14, false) } : Oper)) (v := ?_) rfl (by kernel_rfl) (by kernel_rfl) (by kernel_rfl) (fun _ _ _ h => h) (Or.inl ⟨by rfl, ?_⟩) (by assumption) ?_
          rotate_left
          · (intro w hSw; (try dsimp only at hSw); go_simp; try with_reducible rfl)
          try simp only [Act.put, List.setIfInBounds_toArray, List.set_cons_zero, List.set_cons_succ]
          refine wpAnyH_take (i := 16) (oi := ({ dst := some 39, op := Go.Op.binOp Go.BinOp.gtr 3 (Go.Operand.tmp 38) (Go.Operand.const (Go.Value.int Go.IntKind.i64 0)) 3, type := 4, pos := "tree.go:38", after := #[{ on := 15, ground := Go.Ground.data }, { on := 14, ground := Go.Ground.guard }], guard := some (14, false) } : Oper)) (v := ?_) rfl (by kernel_rfl) (by kernel_rfl) (by kernel_rfl) (fun _ _ _ h => h) (Or.inl ⟨by rfl, ?_⟩) (by assumption) ?_
          rotate_left
          · (intro w hSw; (try dsimp only at hSw); go_simp; try with_reducible rfl)
          try simp only [Act.put, List.setIfInBounds_toArray, List.set_cons_zero, List.set_cons_succ]
          refine wpAnyH_take (i := 17) (oi := ({ dst := some 40, op := Go.Op.move (Go.Operand.tmp 39), type := 4, pos := "tree.go:38", after := #[{ on := 16, ground := Go.Ground.data }, { on := 14, ground := Go.Ground.chain }, { on := 14, ground := Go.Ground.guard }], guard := some (14, false) } : Oper)) (v := ?_) rfl (by kernel_rfl) (by kernel_rfl) (by kernel_rfl) (fun _ _ _ h => h) (Or.inl ⟨by rfl, ?_⟩) (by assumption) ?_
          rotate_left
          · (intro w hSw; (try dsimp only at hSw); go_simp; try with_reducible rfl)
          try simp only [Act.put, List.setIfInBounds_toArray, List.set_cons_zero, List.set_cons_succ]
          refine wpAnyH_take (i := 18) (oi := ({ dst := some 41, op := Go.Op.move (Go.Operand.tmp 0), type := 24, pos := "tree.go:38", after := #[{ on := 17, ground := Go.Ground.guard }], guard := some (17, true) } : Oper)) (v := ?_) rfl (by kernel_rfl) (by kernel_rfl) (by kernel_rfl) (fun _ _ _ h => h) (Or.inl ⟨by rfl, ?_⟩) (by assumption) ?_
          rotate_left
          · (intro w hSw; (try dsimp only at hSw); go_simp; try with_reducible rfl)
          try simp only [Act.put, List.setIfInBounds_toArray, List.set_cons_zero, List.set_cons_succ]
          refine wpAnyH_take (i := 19) (oi := ({ dst := some 42, op := Go.Op.move (Go.Operand.tmp 5), type := 3, pos := "tree.go:38", after := #[{ on := 17, ground := Go.Ground.guard }], guard := some (17, true) } : Oper)) (v := ?_) rfl (by kernel_rfl) (by kernel_rfl) (by kernel_rfl) (fun _ _ _ h => h) (Or.inl ⟨by rfl, ?_⟩) (by assumption) ?_
          rotate_left
          · (intro w hSw; (try dsimp only at hSw); go_simp; try with_reducible rfl)
          try simp only [Act.put, List.setIfInBounds_toArray, List.set_cons_zero, List.set_cons_succ]
          refine wpAnyH_take (i := 20) (oi := ({ dst := some 43, op := Go.Op.binOp Go.BinOp.sub 3 (Go.Operand.tmp 42) (Go.Operand.const (Go.Value.int Go.IntKind.i64 1)) 3, type := 3, pos := "tree.go:38", after := #[{ on := 19, ground := Go.Ground.data }, { on := 17, ground := Go.Ground.guard }], guard := some (17, true) } : Oper)) (v := ?_) rfl (by kernel_rfl) (by kernel_rfl) (by kernel_rfl) (fun _ _ _ h => h) (Or.inl ⟨by rfl, ?_⟩) (by assumption) ?_
          rotate_left
          · (intro w hSw; (try dsimp only at hSw); go_simp; try with_reducible rfl)
          try simp only [Act.put, List.setIfInBounds_toArray, List.set_cons_zero, List.set_cons_succ]
          refine wpAnyH_take (i := 21) (oi := ({ dst := some 44, op := Go.Op.indexAddr 24 (Go.Operand.tmp 41) (Go.Operand.tmp 43), type := 0, pos := "tree.go:38", after := #[{ on := 18, ground := Go.Ground.data }, { on := 20, ground := Go.Ground.data }, { on := 17, ground := Go.Ground.guard }], guard := some (17, true) } : Oper)) (v := ?_) rfl (by kernel_rfl) (by kernel_rfl) (by kernel_rfl) (fun _ _ _ h => h) (Or.inl ⟨by rfl, ?_⟩) (by assumption) ?_
          rotate_left
          · (intro w hSw; (try dsimp only at hSw); go_simp; try with_reducible rfl)
          try simp only [Act.put, List.setIfInBounds_toArray, List.set_cons_zero, List.set_cons_succ]
          refine wpAnyH_take (i := 22) (oi := ({ dst := some 45, op := Go.Op.fieldAddr 37 (Go.Operand.tmp 44) 0, type := 0, pos := "tree.go:38", after := #[{ on := 21, ground := Go.Ground.data }, { on := 17, ground := Go.Ground.guard }], guard := some (17, true) } : Oper)) (v := ?_) rfl (by kernel_rfl) (by kernel_rfl) (by kernel_rfl) (fun _ _ _ h => h) (Or.inl ⟨by rfl, ?_⟩) (by assumption) ?_
          rotate_left
          · (intro w hSw; (try dsimp only at hSw); go_simp; try with_reducible rfl)
          try simp only [Act.put, List.setIfInBounds_toArray, List.set_cons_zero, List.set_cons_succ]
          refine wpAnyH_take (i := 23) (oi := ({ dst := some 46, op := Go.Op.load 9 (Go.Operand.tmp 45), type := 9, pos := "tree.go:38", after := #[{ on := 22, ground := Go.Ground.data }, { on := 17, ground := Go.Ground.guard }], guard := some (17, true) } : Oper)) (v := ?_) rfl (by kernel_rfl) (by kernel_rfl) (by kernel_rfl) (fun _ _ _ h => h) (Or.inl ⟨by rfl, ?_⟩) (by assumption) ?_
          rotate_left
          · (intro w hSw; (try dsimp only at hSw); have c1 := hSw.2.2.1; go_simp; try with_reducible rfl)
          try simp only [Act.put, List.setIfInBounds_toArray, List.set_cons_zero, List.set_cons_succ]
          refine wpAnyH_take (i := 24) (oi := ({ dst := some 47, op := Go.Op.fieldAddr 37 (Go.Operand.tmp 6) 0, type := 0, pos := "tree.go:38", after := #[{ on := 17, ground := Go.Ground.guard }], guard := some (17, true) } : Oper)) (v := ?_) rfl (by kernel_rfl) (by kernel_rfl) (by kernel_rfl) (fun _ _ _ h => h) (Or.inl ⟨by rfl, ?_⟩) (by assumption) ?_
          rotate_left
          · (intro w hSw; (try dsimp only at hSw); go_simp; try with_reducible rfl)
          try simp only [Act.put, List.setIfInBounds_toArray, List.set_cons_zero, List.set_cons_succ]
          refine wpAnyH_take (i := 25) (oi := ({ dst := some 48, op := Go.Op.load 9 (Go.Operand.tmp 47), type := 9, pos := "tree.go:38", after := #[{ on := 24, ground := Go.Ground.data }, { on := 17, ground := Go.Ground.guard }], guard := some (17, true) } : Oper)) (v := ?_) rfl (by kernel_rfl) (by kernel_rfl) (by kernel_rfl) (fun _ _ _ h => h) (Or.inl ⟨by rfl, ?_⟩) (by assumption) ?_
          rotate_left
          · (intro w hSw; (try dsimp only at hSw); have c1 := hSw.1; go_simp; try with_reducible rfl)
          try simp only [Act.put, List.setIfInBounds_toArray, List.set_cons_zero, List.set_cons_succ]
          refine wpAnyH_take (i := 26) (oi := ({ dst := some 49, op := Go.Op.binOp Go.BinOp.geq 9 (Go.Operand.tmp 46) (Go.Operand.tmp 48) 9, type := 4, pos := "tree.go:38", after := #[{ on := 23, ground := Go.Ground.data }, { on := 25, ground := Go.Ground.data }, { on := 17, ground := Go.Ground.guard }], guard := some (17, true) } : Oper)) (v := ?_) rfl (by kernel_rfl) (by kernel_rfl) (by kernel_rfl) (fun _ _ _ h => h) (Or.inl ⟨by rfl, ?_⟩) (by assumption) ?_
          rotate_left
          · (intro w hSw; (try dsimp only at hSw); go_simp; try with_reducible rfl)
          try simp only [Act.put, List.setIfInBounds_toArray, List.set_cons_zero, List.set_cons_succ]
          refine wpAnyH_take (i := 27) (oi := ({ dst := some 50, op := Go.Op.pick (Go.Operand.tmp 40) (Go.Operand.tmp 49) (Go.Operand.const (Go.Value.bool false)), type := 4, pos := "tree.go:38", after := #[{ on := 17, ground := Go.Ground.data }, { on := 26, ground := Go.Ground.data }, { on := 14, ground := Go.Ground.guard }], guard := some (14, false) } : Oper)) (v := ?_) rfl (by kernel_rfl) (by kernel_rfl) (by kernel_rfl) (fun _ _ _ h => h) (Or.inl ⟨by rfl, ?_⟩) (by assumption) ?_
          rotate_left
          · (intro w hSw; (try dsimp only at hSw); go_simp; try with_reducible rfl)
          try simp only [Act.put, List.setIfInBounds_toArray, List.set_cons_zero, List.set_cons_succ]
          refine wpAnyH_take (i := 28) (oi := ({ dst := some 51, op := Go.Op.pick (Go.Operand.tmp 37) (Go.Operand.const (Go.Value.bool true)) (Go.Operand.tmp 50), type := 4, pos := "tree.go:38", after := #[{ on := 14, ground := Go.Ground.data }, { on := 27, ground := Go.Ground.data }], guard := none } : Oper)) (v := ?_) rfl (by kernel_rfl) (by kernel_rfl) (by kernel_rfl) (fun _ _ _ h => h) (Or.inl ⟨by rfl, ?_⟩) (by assumption) ?_
          rotate_left
          · (intro w hSw; (try dsimp only at hSw); go_simp; try with_reducible rfl)
          try simp only [Act.put, List.setIfInBounds_toArray, List.set_cons_zero, List.set_cons_succ]
          refine wpAnyH_done (by kernel_rfl) ?_ _
          refine NoPanic.normal ?_
          skip
          go_wp2_with fail
          go_returns
          obtain ⟨rfl, rfl⟩ := HNO.out (isT_no (stepE_down HEX.out HEY.out (by rw [ltE, HTY.out]; exact HLE.out)) (by rw [HL.out]; exact HLT.out))
          exact GiveE.none (kk4.trans' hHeld1.2.2.2)
        | true =>
          have HLE := Lib.hid hlt2
          refine wp_region_noPanic ?_
          refine wp_region_held_drew (S := SE W4 px x.name kd b (off + j * N) t) (by kernel_rfl) ?_ (fun hHeld0 => ?_)
          · (try dsimp only); first | exact SE.step hS ((Keep.refl [] _).drew) | exact SE.step (by assumption) hk
          refine wpAnyH_take (i := 0) (oi := ({ dst := some 23, op := Go.Op.fieldAddr 37 (Go.Operand.tmp 6) 0, type := 0, pos := "tree.go:38", after := #[], guard := none } : Oper)) (v := ?_) rfl (by kernel_rfl) (by kernel_rfl) (by kernel_rfl) (fun _ _ _ h => h) (Or.inl ⟨by rfl, ?_⟩) (by assumption) ?_
          rotate_left
          · (intro w hSw; (try dsimp only at hSw); go_simp; try with_reducible rfl)
          try simp only [Act.put, List.setIfInBounds_toArray, List.set_cons_zero, List.set_cons_succ]
          refine wpAnyH_take (i := 1) (oi := ({ dst := some 24, op := Go.Op.load 9 (Go.Operand.tmp 23), type := 9, pos := "tree.go:38", after := #[{ on := 0, ground := Go.Ground.data }], guard := none } : Oper)) (v := ?_) rfl (by kernel_rfl) (by kernel_rfl) (by kernel_rfl) (fun _ _ _ h => h) (Or.inl ⟨by rfl, ?_⟩) (by assumption) ?_
          rotate_left
          · (intro w hSw; (try dsimp only at hSw); have c1 := hSw.1; go_simp; try with_reducible rfl)
          try simp only [Act.put, List.setIfInBounds_toArray, List.set_cons_zero, List.set_cons_succ]
          refine wpAnyH_ready (rs := [2]) (by kernel_rfl) (by simp) ?_
          refine (AllReadyH.cons (o := ({ dst := some 25, op := Go.Op.call { callee := Go.Callee.value (Go.Operand.func 11), args := #[Go.Operand.tmp 24], argTypes := #[9] }, type := 4, pos := "tree.go:38", after := #[{ on := 1, ground := Go.Ground.data }], guard := none } : Oper)) rfl (fun K hK => ?_) AllReadyH.nil)
          go_simp
          (refine (CV.out _ (kk4.trans' ((Keep.refl [] W4).drew))).mono ?_; rintro e w' ⟨rfl, hk⟩)
          go_wp2_with fail
          refine hK.out _ _ ?_ (fun hHeld1 => ?_)
          · (try dsimp only); first | exact SE.step hS ((Keep.refl [] _).drew) | exact SE.step (by assumption) hk
          clear hK K
          try simp only [Act.put, List.setIfInBounds_toArray, List.set_cons_zero, List.set_cons_succ]
          refine wpAnyH_take (i := 3) (oi := ({ dst := some 26, op := Go.Op.unOp Go.UnOp.not 4 (Go.Operand.tmp 25), type := 4, pos := "tree.go:38", after := #[{ on := 2, ground := Go.Ground.data }], guard := none } : Oper)) (v := ?_) rfl (by kernel_rfl) (by kernel_rfl) (by kernel_rfl) (fun _ _ _ h => h) (Or.inl ⟨by rfl, ?_⟩) (by assumption) ?_
          rotate_left
          · (intro w hSw; (try dsimp only at hSw); go_simp; try with_reducible rfl)
          try simp only [Act.put, List.setIfInBounds_toArray, List.set_cons_zero, List.set_cons_succ]
          refine wpAnyH_take (i := 4) (oi := ({ dst := some 27, op := Go.Op.move (Go.Operand.tmp 26), type := 4, pos := "tree.go:38", after := #[{ on := 3, ground := Go.Ground.data }, { on := 2, ground := Go.Ground.chain }], guard := none } : Oper)) (v := ?_) rfl (by kernel_rfl) (by kernel_rfl) (by kernel_rfl) (fun _ _ _ h => h) (Or.inl ⟨by rfl, ?_⟩) (by assumption) ?_
          rotate_left
          · (intro w hSw; (try dsimp only at hSw); go_simp; try with_reducible rfl)
          try simp only [Act.put, List.setIfInBounds_toArray, List.set_cons_zero, List.set_cons_succ]
          refine wpAnyH_take (i := 5) (oi := ({ dst := some 28, op := Go.Op.fieldAddr 37 (Go.Operand.tmp 6) 1, type := 0, pos := "tree.go:38", after := #[{ on := 4, ground := Go.Ground.guard }], guard := some (4, false) } : Oper)) (v := ?_) rfl (by kernel_rfl) (by kernel_rfl) (by kernel_rfl) (fun _ _ _ h => h) (Or.inl ⟨by rfl, ?_⟩) (by assumption) ?_
          rotate_left
          · (intro w hSw; (try dsimp only at hSw); go_simp; try with_reducible rfl)
          try simp only [Act.put, List.setIfInBounds_toArray, List.set_cons_zero, List.set_cons_succ]
          refine wpAnyH_take (i := 6) (oi := ({ dst := some 29, op := Go.Op.load 3 (Go.Operand.tmp 28), type := 3, pos := "tree.go:38", after := #[{ on := 5, ground := Go.Ground.data }, { on := 4, ground := Go.Ground.guard }], guard := some (4, false) } : Oper)) (v := ?_) rfl (by kernel_rfl) (by kernel_rfl) (by kernel_rfl) (fun _ _ _ h => h) (Or.inl ⟨by rfl, ?_⟩) (by assumption) ?_
          rotate_left
          · (intro w hSw; (try dsimp only at hSw); have c1 := hSw.2.1; go_simp; try with_reducible rfl)
          try simp only [Act.put, List.setIfInBounds_toArray, List.set_cons_zero, List.set_cons_succ]
          refine wpAnyH_take (i := 7) (oi := ({ dst := some 30, op := Go.Op.binOp Go.BinOp.lss 3 (Go.Operand.tmp 29) (Go.Operand.const (Go.Value.int Go.IntKind.i64 1)) 3, type := 4, pos := "tree.go:38", after := #[{ on := 6, ground := Go.Ground.data }, { on := 4, ground := Go.Ground.guard }], guard := some (4, false) } : Oper)) (v := ?_) rfl (by kernel_rfl) (by kernel_rfl) (by kernel_rfl) (fun _ _ _ h => h) (Or.inl ⟨by rfl, ?_⟩) (by assumption) ?_
          rotate_left
          · (intro w hSw; (try dsimp only at hSw); go_simp; try with_reducible rfl)
          try simp only [Act.put, List.setIfInBounds_toArray, List.set_cons_zero, List.set_cons_succ]
          refine wpAnyH_take (i := 8) (oi := ({ dst := some 31, op := Go.Op.pick (Go.Operand.tmp 27) (Go.Operand.const (Go.Value.bool true)) (Go.Operand.tmp 30), type := 4, pos := "tree.go:38", after := #[{ on := 4, ground := Go.Ground.data }, { on := 7, ground := Go.Ground.data }], guard := none } : Oper)) (v := ?_) rfl (by kernel_rfl) (by kernel_rfl) (by kernel_rfl) (fun _ _ _ h => h) (Or.inl ⟨by rfl, ?_⟩) (by assumption) ?_
          rotate_left
          · (intro w hSw; (try dsimp only at hSw); go_simp; try with_reducible rfl)
          try simp only [Act.put, List.setIfInBounds_toArray, List.set_cons_zero, List.set_cons_succ]
          refine wpAnyH_take (i := 9) (oi := ({ dst := some 32, op := Go.Op.move (Go.Operand.tmp 31), type := 4, pos := "tree.go:38", after := #[{ on := 8, ground := Go.Ground.data }, { on := 4, ground := Go.Ground.chain }], guard := none } : Oper)) (v := ?_) rfl (by kernel_rfl) (by kernel_rfl) (by kernel_rfl) (fun _ _ _ h => h) (Or.inl ⟨by rfl, ?_⟩) (by assumption) ?_
          rotate_left
          · (intro w hSw; (try dsimp only at hSw); go_simp; try with_reducible rfl)
          try simp only [Act.put, List.setIfInBounds_toArray, List.set_cons_zero, List.set_cons_succ]
          refine wpAnyH_take (i := 10) (oi := ({ dst := some 33, op := Go.Op.fieldAddr 37 (Go.Operand.tmp 6) 1, type := 0, pos := "tree.go:38", after := #[{ on := 9, ground := Go.Ground.guard }], guard := some (9, false) } : Oper)) (v := ?_) rfl (by kernel_rfl) (by kernel_rfl) (by kernel_rfl) (fun _ _ _ h => h) (Or.inl ⟨by rfl, ?_⟩) (by assumption) ?_
          rotate_left
          · (intro w hSw; (try dsimp only at hSw); go_simp; try with_reducible rfl)
          try simp only [Act.put, List.setIfInBounds_toArray, List.set_cons_zero, List.set_cons_succ]
          refine wpAnyH_take (i := 11) (oi := ({ dst := some 34, op := Go.Op.load 3 (Go.Operand.tmp 33), type := 3, pos := "tree.go:38", after := #[{ on := 10, ground := Go.Ground.data }, { on := 9, ground := Go.Ground.guard }], guard := some (9, false) } : Oper)) (v := ?_) rfl (by kernel_rfl) (by kernel_rfl) (by kernel_rfl) (fun _ _ _ h => h) (Or.inl ⟨by rfl, ?_⟩) (by assumption) ?_
          rotate_left
          · (intro w hSw; (try dsimp only at hSw); have c1 := hSw.2.1; go_simp; try with_reducible rfl)
          try simp only [Act.put, List.setIfInBounds_toArray, List.set_cons_zero, List.set_cons_succ]
          refine wpAnyH_take (i := 12) (oi := ({ dst := some 35, op := Go.Op.binOp Go.BinOp.gtr 3 (Go.Operand.tmp 34) (Go.Operand.const (Go.Value.int Go.IntKind.i64 3)) 3, type := 4, pos := "tree.go:38", after := #[{ on := 11, ground := Go.Ground.data }, { on := 9, ground := Go.Ground.guard }], guard := some (9, false) } : Oper)) (v := ?_) rfl (by kernel_rfl) (by kernel_rfl) (by kernel_rfl) (fun _ _ _ h => h) (Or.inl ⟨by rfl, ?_⟩) (by assumption) ?_
          rotate_left
          · (intro w hSw; (try dsimp only at hSw); go_simp; try with_reducible rfl)
          try simp only [Act.put, List.setIfInBounds_toArray, List.set_cons_zero, List.set_cons_succ]
          refine wpAnyH_take (i := 13) (oi := ({ dst := some 36, op := Go.Op.pick (Go.Operand.tmp 32) (Go.Operand.const (Go.Value.bool true)) (Go.Operand.tmp 35), type := 4, pos := "tree.go:38", after := #[{ on := 9, ground := Go.Ground.data }, { on := 12, ground := Go.Ground.data }], guard := none } : Oper)) (v := ?_) rfl (by kernel_rfl) (by kernel_rfl) (by kernel_rfl) (fun _ _ _ h => h) (Or.inl ⟨by rfl, ?_⟩) (by assumption) ?_
          rotate_left
          · (intro w hSw; (try dsimp only at hSw); go_simp; try with_reducible rfl)
          try simp only [Act.put, List.setIfInBounds_toArray, List.set_cons_zero, List.set_cons_succ]
          refine wpAnyH_take (i := 14) (oi := ({ dst := some 37, op := Go.Op.move (Go.Operand.tmp 36), type := 4, pos := "tree.go:38", after := #[{ on := 13, ground := Go.Ground.data }, { on := 9, ground := Go.Ground.chain }], guard := none } : Oper)) (v := ?_) rfl (by kernel_rfl) (by kernel_rfl) (by kernel_rfl) (fun _ _ _ h => h) (Or.inl ⟨by rfl, ?_⟩) (by assumption) ?_
          rotate_left
          · (intro w hSw; (try dsimp only at hSw); go_simp; try with_reducible rfl)
          try simp only [Act.put, List.setIfInBounds_toArray, List.set_cons_zero, List.set_cons_succ]
          refine wpAnyH_take (i := 15) (oi := ({ dst := some 38, op := Go.Op.move (Go.Operand.tmp 5), type := 3, pos := "tree.go:38", after := #[{ on := 14, ground := Go.Ground.guard }], guard := some (14, false) } : Oper)) (v := ?_) rfl (by kernel_rfl) (by kernel_rfl) (by kernel_rfl) (fun _ _ _ h => h) (Or.inl ⟨by rfl, ?_⟩) (by assumption) ?_
          rotate_left
          · (intro w hSw; (try dsimp only at hSw); go_simp; try with_reducible rfl)
          try simp only [Act.put, List.setIfInBounds_toArray, List.set_cons_zero, List.set_cons_succ]
          refine wpAnyH_take (i := 16) (oi := ({ dst := some 39, op := Go.Op.binOp Go.BinOp.gtr 3 (Go.Operand.tmp 38) (Go.Operand.const (Go.Value.int Go.IntKind.i64 0)) 3, type := 4, pos := "tree.go:38", after := #[{ on := 15, ground := Go.Ground.data }, { on := 14, ground := Go.Ground.guard }], guard := some (14, false) } : Oper)) (v := ?_) rfl (by kernel_rfl) (by kernel_rfl) (by kernel_rfl) (fun _ _ _ h => h) (Or.inl ⟨by rfl, ?_⟩) (by assumption) ?_
          rotate_left
          · (intro w hSw; (try dsimp only at hSw); go_simp; try with_reducible rfl)
          try simp only [Act.put, List.setIfInBounds_toArray, List.set_cons_zero, List.set_cons_succ]
          refine wpAnyH_take (i := 17) (oi := ({ dst := some 40, op := Go.Op.move (Go.Operand.tmp 39), type := 4, pos := "tree.go:38", after := #[{ on := 16, ground := Go.Ground.data }, { on := 14, ground := Go.Ground.chain }, { on := 14, ground := Go.Ground.guard }], guard := some (14, false) } : Oper)) (v := ?_) rfl (by kernel_rfl) (by kernel_rfl) (by kernel_rfl) (fun _ _ _ h => h) (Or.inl ⟨by rfl, ?_⟩) (by assumption) ?_
          rotate_left
          · (intro w hSw; (try dsimp only at hSw); go_simp; try with_reducible rfl)
          try simp only [Act.put, List.setIfInBounds_toArray, List.set_cons_zero, List.set_cons_succ]
          refine wpAnyH_take (i := 18) (oi := ({ dst := some 41, op := Go.Op.move (Go.Operand.tmp 0), type := 24, pos := "tree.go:38", after := #[{ on := 17, ground := Go.Ground.guard }], guard := some (17, true) } : Oper)) (v := ?_) rfl (by kernel_rfl) (by kernel_rfl) (by kernel_rfl) (fun _ _ _ h => h) (Or.inl ⟨by rfl, ?_⟩) (by assumption) ?_
          rotate_left
          · (intro w hSw; (try dsimp only at hSw); go_simp; try with_reducible rfl)
          try simp only [Act.put, List.setIfInBounds_toArray, List.set_cons_zero, List.set_cons_succ]
          refine wpAnyH_take (i := 19) (oi := ({ dst := some 42, op := Go.Op.move (Go.Operand.tmp 5), type := 3, pos := "tree.go:38", after := #[{ on := 17, ground := Go.Ground.guard }], guard := some (17, true) } : Oper)) (v := ?_) rfl (by kernel_rfl) (by kernel_rfl) (by kernel_rfl) (fun _ _ _ h => h) (Or.inl ⟨by rfl, ?_⟩) (by assumption) ?_
          rotate_left
          · (intro w hSw; (try dsimp only at hSw); go_simp; try with_reducible rfl)
          try simp only [Act.put, List.setIfInBounds_toArray, List.set_cons_zero, List.set_cons_succ]
          refine wpAnyH_take (i := 20) (oi := ({ dst := some 43, op := Go.Op.binOp Go.BinOp.sub 3 (Go.Operand.tmp 42) (Go.Operand.const (Go.Value.int Go.IntKind.i64 1)) 3, type := 3, pos := "tree.go:38", after := #[{ on := 19, ground := Go.Ground.data }, { on := 17, ground := Go.Ground.guard }], guard := some (17, true) } : Oper)) (v := ?_) rfl (by kernel_rfl) (by kernel_rfl) (by kernel_rfl) (fun _ _ _ h => h) (Or.inl ⟨by rfl, ?_⟩) (by assumption) ?_
          rotate_left
          · (intro w hSw; (try dsimp only at hSw); go_simp; try with_reducible rfl)
          try simp only [Act.put, List.setIfInBounds_toArray, List.set_cons_zero, List.set_cons_succ]
          refine wpAnyH_take (i := 21) (oi := ({ dst := some 44, op := Go.Op.indexAddr 24 (Go.Operand.tmp 41) (Go.Operand.tmp 43), type := 0, pos := "tree.go:38", after := #[{ on := 18, ground := Go.Ground.data }, { on := 20, ground := Go.Ground.data }, { on := 17, ground := Go.Ground.guard }], guard := some (17, true) } : Oper)) (v := ?_) rfl (by kernel_rfl) (by kernel_rfl) (by kernel_rfl) (fun _ _ _ h => h) (Or.inl ⟨by rfl, ?_⟩) (by assumption) ?_
          rotate_left
          · (intro w hSw; (try dsimp only at hSw); go_simp; try with_reducible rfl)
          try simp only [Act.put, List.setIfInBounds_toArray, List.set_cons_zero, List.set_cons_succ]
          refine wpAnyH_take (i := 22) (oi := ({ dst := some 45, op := Go.Op.fieldAddr 37 (Go.Operand.tmp 44) 0, type := 0, pos := "tree.go:38", after := #[{ on := 21, ground := Go.Ground.data }, { on := 17, ground := Go.Ground.guard }], guard := some (17, true) } : Oper)) (v := ?_) rfl (by kernel_rfl) (by kernel_rfl) (by kernel_rfl) (fun _ _ _ h => h) (Or.inl ⟨by rfl, ?_⟩) (by assumption) ?_
          rotate_left
          · (intro w hSw; (try dsimp only at hSw); go_simp; try with_reducible rfl)
          try simp only [Act.put, List.setIfInBounds_toArray, List.set_cons_zero, List.set_cons_succ]
          refine wpAnyH_take (i := 23) (oi := ({ dst := some 46, op := Go.Op.load 9 (Go.Operand.tmp 45), type := 9, pos := "tree.go:38", after := #[{ on := 22, ground := Go.Ground.data }, { on := 17, ground := Go.Ground.guard }], guard := some (17, true) } : Oper)) (v := ?_) rfl (by kernel_rfl) (by kernel_rfl) (by kernel_rfl) (fun _ _ _ h => h) (Or.inl ⟨by rfl, ?_⟩) (by assumption) ?_
          rotate_left
          · (intro w hSw; (try dsimp only at hSw); have c1 := hSw.2.2.1; go_simp; try with_reducible rfl)
          try simp only [Act.put, List.setIfInBounds_toArray, List.set_cons_zero, List.set_cons_succ]
          refine wpAnyH_take (i := 24) (oi := ({ dst := some 47, op := Go.Op.fieldAddr 37 (Go.Operand.tmp 6) 0, type := 0, pos := "tree.go:38", after := #[{ on := 17, ground := Go.Ground.guard }], guard := some (17, true) } : Oper)) (v := ?_) rfl (by kernel_rfl) (by kernel_rfl) (by kernel_rfl) (fun _ _ _ h => h) (Or.inl ⟨by rfl, ?_⟩) (by assumption) ?_
          rotate_left
          · (intro w hSw; (try dsimp only at hSw); go_simp; try with_reducible rfl)
          try simp only [Act.put, List.setIfInBounds_toArray, List.set_cons_zero, List.set_cons_succ]
          refine wpAnyH_take (i := 25) (oi := ({ dst := some 48, op := Go.Op.load 9 (Go.Operand.tmp 47), type := 9, pos := "tree.go:38", after := #[{ on := 24, ground := Go.Ground.data }, { on := 17, ground := Go.Ground.guard }], guard := some (17, true) } : Oper)) (v := ?_) rfl (by kernel_rfl) (by kernel_rfl) (by kernel_rfl) (fun _ _ _ h => h) (Or.inl ⟨by rfl, ?_⟩) (by assumption) ?_
          rotate_left
          · (intro w hSw; (try dsimp only at hSw); have c1 := hSw.1; go_simp; try with_reducible rfl)
          try simp only [Act.put, List.setIfInBounds_toArray, List.set_cons_zero, List.set_cons_succ]
          refine wpAnyH_take (i := 26) (oi := ({ dst := some 49, op := Go.Op.binOp Go.BinOp.geq 9 (Go.Operand.tmp 46) (Go.Operand.tmp 48) 9, type := 4, pos := "tree.go:38", after := #[{ on := 23, ground := Go.Ground.data }, { on := 25, ground := Go.Ground.data }, { on := 17, ground := Go.Ground.guard }], guard := some (17, true) } : Oper)) (v := ?_) rfl (by kernel_rfl) (by kernel_rfl) (by kernel_rfl) (fun _ _ _ h => h) (Or.inl ⟨by rfl, ?_⟩) (by assumption) ?_
          rotate_left
          · (intro w hSw; (try dsimp only at hSw); go_simp; try with_reducible rfl)
          try simp only [Act.put, List.setIfInBounds_toArray, List.set_cons_zero, List.set_cons_succ]
          refine wpAnyH_take (i := 27) (oi := ({ dst := some 50, op := Go.Op.pick (Go.Operand.tmp 40) (Go.Operand.tmp 49) (Go.Operand.const (Go.Value.bool false)), type := 4, pos := "tree.go:38", after := #[{ on := 17, ground := Go.Ground.data }, { on := 26, ground := Go.Ground.data }, { on := 14, ground := Go.Ground.guard }], guard := some (14, false) } : Oper)) (v := ?_) rfl (by kernel_rfl) (by kernel_rfl) (by kernel_rfl) (fun _ _ _ h => h) (Or.inl ⟨by rfl, ?_⟩) (by assumption) ?_
          rotate_left
          · (intro w hSw; (try dsimp only at hSw); go_simp; try with_reducible rfl)
          try simp only [Act.put, List.setIfInBounds_toArray, List.set_cons_zero, List.set_cons_succ]
          refine wpAnyH_take (i := 28) (oi := ({ dst := some 51, op := Go.Op.pick (Go.Operand.tmp 37) (Go.Operand.const (Go.Value.bool true)) (Go.Operand.tmp 50), type := 4, pos := "tree.go:38", after := #[{ on := 14, ground := Go.Ground.data }, { on := 27, ground := Go.Ground.data }], guard := none } : Oper)) (v := ?_) rfl (by kernel_rfl) (by kernel_rfl) (by kernel_rfl) (fun _ _ _ h => h) (Or.inl ⟨by rfl, ?_⟩) (by assumption) ?_
          rotate_left
          · (intro w hSw; (try dsimp only at hSw); go_simp; try with_reducible rfl)
          try simp only [Act.put, List.setIfInBounds_toArray, List.set_cons_zero, List.set_cons_succ]
          refine wpAnyH_done (by kernel_rfl) ?_ _
          refine NoPanic.normal ?_
          skip
          have kx := hHeld1.2.2.2
          have hWr5 := hWr4.keep kx (by simp)
          have rX5 := rangeAt_keep rX kx (by simp)
          have kk5 := kk4.trans' kx
          have cn5 := hHeld1.1
          have ck5 := hHeld1.2.1
          have OK := okE_of HOK.out
          obtain ⟨kn, hkn⟩ : ∃ k : Nat, kd = k := ⟨kd.toNat, by have := OK.k1; rw [HKD.out] at this; omega⟩
          have kn3 : kn ≤ 3 := by have := OK.k3; rw [HKD.out, hkn] at this; omega
          obtain ⟨nm, hnm2⟩ : ∃ s, x.name = s := ⟨_, rfl⟩
          rw [hnm2] at cn5
          rw [hkn] at ck5
          have hsz : nm.size ≤ 32 := by rw [← hnm2]; exact OK.sz
          have HSTEP := Lib.hid (show esTo l (j + 1 + 1) = true by rw [esTo_succ, HO.out]; exact stepE_next HEX.out HEY.out HOK.out (by rw [ltE, HTY.out]; exact HLE.out))
          have HE := Lib.hid (show encTo l (j + 1 + 1) = encTo l (j + 1) ++ ([UInt8.ofNat kn] ++ (([UInt8.ofNat nm.size] ++ nm.data.toList) ++ x.id)) by rw [encTo_next HEX.out, entB, HKD.out, hkn, hnm2]; simp)
          have hdl : (encTo l (j + 1)).length ≤ 2114 := by
            have h1 : (l.take (j + 1)).length ≤ 32 := by have := HL.out; rw [List.length_take]; omega
            have h2 : ∀ y ∈ l.take (j + 1), y.name.size ≤ 32 := fun y hy => by
              obtain ⟨q, hq, e⟩ := List.mem_iff_getElem.1 hy
              rw [List.length_take] at hq
              rw [List.getElem_take] at e
              have hst : stepE l q = true := by
                cases hs : stepE l q with
                | true => rfl
                | false => have := HO.out; rw [esTo_no hs (by omega)] at this; cases this
              cases ho : okE y with
              | true => exact (okE_of ho).sz
              | false => rw [stepE_no (by rw [List.getElem?_eq_getElem (by omega), e]) ho] at hst; cases hst
            have h3 := flat_le h2
            unfold encTo; rw [List.length_append]; simp only [List.length_cons, List.length_nil]; omega
          obtain ⟨d, hd⟩ : ∃ d, encTo l (j + 1) = d := ⟨_, rfl⟩
          rw [hd] at hWr5 hdl
          have HD := Lib.hid hd
          clear hd hnm2 hkn hlt2 hHeld0 hHeld1 OK hWr4 rX cn ck k1 kx kk4 HOK HO
          have hfx : isFix (kn : Int) 1 = true := by simp [isFix]; omega
          have hR1 := fixed_any P S false d kn 1 _ hWr5 (by simp [Lit.wf, IntKind.min, IntKind.max, IntKind.signed, IntKind.bits]; omega) (by omega)
          rw [hfx] at hR1
          simp only [Bool.not_true, Bool.or_false, putD, Bool.false_eq_true, if_false] at hR1
          rw [show fixB (kn : Int).toNat (1 : Int).toNat = [UInt8.ofNat kn] by simp [fixB]] at hR1
          have HR1 := Lib.hid hR1
          clear hR1 hfx
          go_upto_region 12 with (first
            | (go_at_call 31; refine HR1.out.mono ?_; rintro e w6 ⟨rfl, ⟨S6, hW6, hf6⟩, hk6⟩)
            | fail)
          have hpS6 : px ∉ S6 := fun h => by
            rcases hf6 _ h with h | h
            · exact hpS h
            · have hq : px < w'.heap.size := World.block_lt_of_cell? _ (a := ⟨px, 0, none⟩) cn5; omega
          have rX6 := rangeAt_keep rX5 hk6 hpS
          have cn6 := hk6.cell cn5 hpS
          have hF6 : Fr w [] S6 := hF.trans hf6 kk5.size
          have kk6 : Keep [] w w6 := kk5.trans hk6 (fun b hb => by rcases hF b hb with h | h; cases h; exact Or.inr h)
          clear HR1 hk6 hf6 hWr5 rX5 cn5 ck5
          have hcv : ∀ W, (convert 9 26 (.string nm)).run Tryd.prog W = _ := fun W => bytes_of W nm
          obtain ⟨cp, hcp⟩ : ∃ c, grownCap w6 nm.size 0 5 = c := ⟨_, rfl⟩
          obtain ⟨w7, hw7⟩ : ∃ W, w6.drew.alloc (.cells (bytesRow nm cp) 5 ((bytesRow nm cp).size, (bytesRow nm cp).size + 1)) = W := ⟨_, rfl⟩
          obtain ⟨q6, hq6⟩ : ∃ q, w6.heap.size = q := ⟨_, rfl⟩
          have rdn : Rd w7 (some ⟨q6, 0, none⟩) (bs nm.data.toList) := by rw [← hw7]; exact rd_row _ _ _ _ _ (by rw [← hq6]; rfl)
          have k7 : Keep [] w6 w7 := by rw [← hw7]; exact (Keep.refl [] w6).drew.alloc _
          have hW7 := hW6.keep k7 (by simp)
          have hqS : q6 ∉ S6 := fun h => by have := hW6.lt _ h; omega
          have hq7 : q6 < w7.heap.size := by rw [← hw7, ← hq6]; show w6.heap.size < (w6.drew.alloc _).heap.size; simp
          have HR2 := Lib.hid (text_any P S6 false (d ++ [UInt8.ofNat kn]) nm.data.toList (some ⟨q6, 0, none⟩) nm.size cp w7 hW7 (name_len nm) (fun h => by cases h) rdn (fun _ => hqS) (by rw [List.length_append]; simp only [List.length_cons, List.length_nil]; omega) (by omega) (fun _ => hq7))
          have rX7 := rangeAt_keep rX6 k7 (by simp)
          have kk7 := kk6.trans' k7
          have HCV : Hid ((convert 9 26 (.string nm)).run Tryd.prog w6 = .ok (.slice (some ⟨q6, 0, none⟩) nm.size cp) w7) := Lib.hid (by rw [hcv, hcp, hq6, hw7])
          clear hcv hcp hw7 hq6 rdn k7 hW6 rX6 kk6
          have hcv := HCV.out
          go_upto_region 13 with (first
            | (go_at_call 33; refine HR2.out.mono ?_; rintro e w8 ⟨rfl, ⟨S8, hW8, hf8⟩, hk8⟩)
            | fail)
          have hpS8 : px ∉ S8 := fun h => by
            rcases hf8 _ h with h | h
            · exact hpS6 h
            · have hq : px < w7.heap.size := World.block_lt_of_cell? _ (a := ⟨px, 0 + 0, none⟩) (rX7 0 _ rfl); omega
          have rX8 := rangeAt_keep rX7 hk8 hpS6
          have hF8 : Fr w [] S8 := hF6.trans hf8 kk7.size
          have kk8 : Keep [] w w8 := kk7.trans hk8 (fun b hb => by rcases hF6 b hb with h | h; cases h; exact Or.inr h)
          simp only [putD, Bool.false_eq_true, if_false] at hW8
          clear HR2 hk8 hf8 hW7 rX7 hcv HCV
          have htl : textB nm.data.toList = [UInt8.ofNat nm.size] ++ nm.data.toList := by rw [textB, name_len, numB_small (by omega)]
          rw [htl] at hW8
          have HR3 := Lib.hid (raw_any P S8 false (d ++ [UInt8.ofNat kn] ++ ([UInt8.ofNat nm.size] ++ nm.data.toList)) x.id (some ⟨px, 2, none⟩) 32 32 w8 hW8 x.li (fun h => by cases h) (Rd.range (by have := rangeAt_id rX8; simpa using this)) (fun _ => hpP) (by simp only [List.length_append, List.length_cons, List.length_nil, name_len]; omega))
          go_wp2_with (first
            | (go_at_call 34; refine HR3.out.mono ?_; rintro e w9 ⟨rfl, ⟨S9, hW9, hf9⟩, hk9⟩)
            | fail)
          simp only [putD, Bool.false_eq_true, if_false] at hW9
          refine ⟨⟨j + 1 + 1, S9, by omega, by go_num, HSTEP, ?_, hF8.trans hf9 kk8.size, kk8.trans hk9 (fun b hb => by rcases hF8 b hb with h | h; cases h; exact Or.inr h)⟩, by simp [intOf]; omega⟩
          rw [HE.out, HD.out]
          simpa [List.append_assoc] using hW9
    · have e : i = n := by omega
      subst e
      have hisT : isT l = true := isT_yes (by rw [HL.out]; omega) (by rw [HL.out]; exact HO.out)
      have hlen := encTo_len hisT i
      have hend := encTo_end l
      rw [HL.out] at hend
      have hW9 := hWr
      rw [hend] at hW9 hlen
      have HD := Lib.hid (data_ok P S (encR l) wr hW9 (by omega))
      have HE := Lib.hid (And.intro (HYES.out hisT) hlen)
      clear hend hlen hisT hWr hW9
      go_wp2_with (first
        | (go_at_call 35; refine HD.out.mono ?_; rintro e w9 ⟨a9, n9, c9, rfl, hn9, hs9, hf9, hk9⟩)
        | fail)
      go_returns
      obtain ⟨⟨rfl, rfl⟩, hlen⟩ := HE.out
      subst hn9
      exact ⟨a9, _, c9, rfl, rfl, hs9, hf9.le kk.size, hlen, kk.trans' hk9⟩
end Go.Proofs.YtgeihjpifbkpkaaDoor

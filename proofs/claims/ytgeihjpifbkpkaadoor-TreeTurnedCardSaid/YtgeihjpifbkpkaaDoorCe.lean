/- marked: the mark behind the end of entries; copied: entries with marks behind their end; whole: are they as they were? -/
import Derived.Test.YtgeihjpifbkpkaaDoorTr
set_option linter.unusedVariables false
set_option linter.unusedSimpArgs false
namespace Go.Proofs.YtgeihjpifbkpkaaDoor
open Go.RowKit
attribute [local go_sem ↓] Go.wp_at_zero Go.wp_at_succ eql_ent

def markE (i : Nat) : Ent := ⟨⟨#[109, 97, 114, 107]⟩, -7 - (i : Int), UInt8.ofNat i :: List.replicate 31 0, by simp⟩
def marksE (i : Nat) : List Ent := (List.range i).map markE
theorem marksE_len (i : Nat) : (marksE i).length = i := by simp [marksE]
theorem marksE_succ (i : Nat) : marksE (i + 1) = marksE i ++ [markE i] := by simp [marksE, List.range_succ]
theorem marksE_get {i k : Nat} (h : k < i) : (marksE i)[k]? = some (markE k) := by simp [marksE, h]
theorem built_id (c : UInt8) : Tryd.prog.built 35 [(0, B8 c)] = some (bs (idOne c)).toArray := by kernel_rfl
theorem built_ent3 (s : ByteArray) (k : Int) (c : UInt8) : Tryd.prog.built 37 [(0, .string s), (1, .int .i64 k), (2, .agg (bs (idOne c)).toArray)] = some (Ent.mk s k (idOne c) (by simp [idOne])).cells.toArray := by kernel_rfl

set_option maxHeartbeats 8000000 in
set_option maxRecDepth 100000 in
theorem marked_any (i : Nat) (hi : i < 40) (w : World) :
    Calls Tryd.prog 30 #[.int .i64 (i : Nat)] w fun e w' => e = .returned (.agg (markE i).cells.toArray) ∧ Keep [] w w' := by
  have B0 : Blk (w.alloc (.cells (ent0 ⟨#[]⟩ 0).cells.toArray 37)) w.heap.size (ent0 ⟨#[]⟩ 0).cells.toArray 37 := Blk.new _ _ _
  have k0 : Keep [] w (w.alloc (.cells (ent0 ⟨#[]⟩ 0).cells.toArray 37)) := (Keep.refl [] w).alloc _
  obtain ⟨W, hW⟩ : ∃ W, w.alloc (.cells (ent0 ⟨#[]⟩ 0).cells.toArray 37) = W := ⟨_, rfl⟩
  obtain ⟨R, hR⟩ : ∃ R, w.heap.size = R := ⟨_, rfl⟩
  rw [hW] at B0 k0
  rw [hR] at B0
  have HW := Lib.hid hW
  have HR := Lib.hid hR
  have hwR : w.heap.size ≤ R := by omega
  have e1 : IntKind.u8.wrap (i : Int) = i := by simp only [IntKind.wrap_u8]; omega
  have e2 : IntKind.i64.wrap (-7 - (i : Int)) = -7 - i := IntWalk.i64_in _ (by omega)
  have hb8 : Value.int .u8 (i : Int) = B8 (UInt8.ofNat i) := by simp [B8]; omega
  have HB8 := Lib.hid hb8
  clear hW hR hb8
  go_enter Tryd.func30, Tryd.ntmps30
  go_upto_region 1 with fail
  change Code.wp _ _ _ _ (World.alloc _ (.cells (ent0 ⟨#[]⟩ 0).cells.toArray 37))
  rw [HW.out, HR.out]
  go_wp2_with (first
    | (refine wpList_built1 rfl 35 0 (.tmp 6) rfl (.int .u8 (i : Int)) rfl (bs (idOne (UInt8.ofNat i))).toArray (by rw [HB8.out]; exact built_id _) ?_)
    | (refine wpList_built3 rfl 37 0 1 2 (.const (.string ⟨#[109, 97, 114, 107]⟩)) (.tmp 4) (.tmp 7) rfl (.string ⟨#[109, 97, 114, 107]⟩) (.int .i64 (-7 - (i : Int))) (.agg (bs (idOne (UInt8.ofNat i))).toArray) rfl rfl rfl (markE i).cells.toArray (built_ent3 _ _ _) ?_)
    | (refine wpList_storeE rfl (.tmp 2) (.tmp 8) rfl R (markE i) _ rfl rfl B0 rfl ?_; intro w9 R9 k9)
    | fail)
  refine bodyPost_ret (results_cell_row rfl _ _ R 37 (markE i).cells.toArray (0, 0) _ rfl R9 Tryd.underlying37 rfl (by simpa using hi37 (markE i))) rfl ?_
  exact ⟨rfl, k0.trans k9 (fun b hb => by simp only [List.mem_singleton] at hb; subst hb; exact Or.inr hwR)⟩

/-- Entries, and 40 marks behind them. -/
def RoomE (w : World) (a : Option Addr) (n c : Nat) (l : List Ent) : Prop := l.length = n ∧ (n + 40) * 56 ≤ 140737488355328 ∧ Sl w 37 34 (.slice a (n + 40) c) (n + 40) (cellsOf (l ++ marksE 40))
theorem RoomE.keep {w w' : World} {S : List Nat} {a : Option Addr} {n c : Nat} {l : List Ent} (h : RoomE w a n c l) (k : Keep S w w') (hS : ∀ b ∈ blks (.slice a n c), b ∉ S) : RoomE w' a n c l := ⟨h.1, h.2.1, h.2.2.keep k (by cases a <;> exact hS)⟩
theorem RoomE.all {w : World} {a : Option Addr} {n c : Nat} {l : List Ent} (h : RoomE w a n c l) (hn : ∀ x ∈ l, x.name.size ≤ 9223372036854775807) : EsIn w a (n + 40) c (l ++ marksE 40) ∨ True := Or.inr trivial
theorem RoomE.addr {w : World} {a : Option Addr} {n c : Nat} {l : List Ent} (h : RoomE w a n c l) : ∃ g off, a = some ⟨g, off, none⟩ := by
  obtain ⟨g, off, e, _⟩ := h.2.2.rd.at (k := 0) (by rw [cellsOf_len, List.length_append, marksE_len]; omega)
  exact ⟨g, off, e⟩
theorem RoomE.cap {w : World} {a : Option Addr} {n c : Nat} {l : List Ent} (h : RoomE w a n c l) : n + 40 ≤ c := sl_le h.2.2
theorem RoomE.rd {w : World} {a : Option Addr} {n c : Nat} {l : List Ent} (h : RoomE w a n c l) : Rd w a (cellsOf l) := by
  rcases h.2.2.rd with e | ⟨b, off, e, hc⟩
  · have := congrArg List.length e
    rw [cellsOf_len, List.length_append, marksE_len] at this; simp at this
  · refine Or.inr ⟨b, off, e, fun k v hk => hc k v ?_⟩
    rw [cellsOf_append, List.getElem?_append_left (List.getElem?_eq_some_iff.1 hk).1]; exact hk
theorem RoomE.esIn {w : World} {a : Option Addr} {n c : Nat} {l : List Ent} (h : RoomE w a n c l) (hn : ∀ x ∈ l, x.name.size ≤ 9223372036854775807) (hs : n * 56 ≤ 140737488351232) : EsIn w a n c l := by
  obtain ⟨_, c', e, _, _, hle, hm, hnil⟩ := h.2.2.form
  simp only [Value.slice.injEq, true_and] at e
  obtain ⟨rfl, rfl⟩ := e
  exact ⟨h.1, h.rd, by omega, hnil, by simpa [maxLen] using hm, hs, hn⟩
theorem RoomE.mark {w : World} {g off n c : Nat} {l : List Ent} (h : RoomE w (some ⟨g, off, none⟩) n c l) {i : Nat} (hi : i < 40) : w.rangeAt g (off + (n + i) * 34) (markE i).cells := by
  rcases h.2.2.rd with e | ⟨b, o, e, hc⟩
  · have := congrArg List.length e
    rw [cellsOf_len, List.length_append, marksE_len] at this; simp at this
  · obtain ⟨rfl, rfl⟩ : g = b ∧ off = o := by simpa [sAddr] using e
    intro j v hv
    have hj := (List.getElem?_eq_some_iff.1 hv).1
    rw [Ent.len] at hj
    rw [Nat.add_assoc]
    refine hc _ v ((cellsOf_get (l := l ++ marksE 40) (i := n + i) (x := markE i) ?_ hj).trans hv)
    rw [List.getElem?_append_right (by rw [h.1]; omega), h.1, Nat.add_sub_cancel_left, marksE_get hi]
theorem make_ents (n : Nat) (h : (n + 40) * 56 ≤ 140737488355328) (w : World) : ∃ z : Array Value, z.size = (n + 40) * 34 ∧ (Instr.makeSlice 24 (.int .i64 0) (.int .i64 ((n : Int) + 40))).run Tryd.prog w = .ok (.slice (some ⟨w.heap.size, 0, none⟩) 0 (n + 40)) (w.alloc (.cells z 37)) := by
  obtain ⟨i, hi, hz, hs, hb⟩ := info_parts info37
  have hr := run_make (P := Tryd.prog) w 24 37 i (.agg (ent0 ⟨#[]⟩ 0).cells.toArray) Tryd.underlying24 hi hz .i64 .i64 0 ((n : Int) + 40) (by omega) (by omega) (by rw [hb]; omega) (by omega)
  have e : ((n : Int) + 40).toNat = n + 40 := by omega
  rw [e, hs] at hr
  exact ⟨_, by simp [madeCells], hr⟩
theorem sl_of_make (w : World) (z : Array Value) (n : Nat) (h : (n + 40) * 56 ≤ 140737488355328) (hz : z.size = (n + 40) * 34) : Sl (w.alloc (.cells z 37)) 37 34 (.slice (some ⟨w.heap.size, 0, none⟩) 0 (n + 40)) 0 [] :=
  ⟨by simp, Or.inr ⟨w.heap.size, n + 40, [], z.toList, rfl, by simpa using Blk.new w z 37, by omega, by simp [hz], by simp only [maxLen]; omega⟩⟩

theorem room_bnd {n i : Nat} (hn : (n + 40) * 56 ≤ 140737488355328) (hi : i < 40) : (n + i + 1) * 56 ≤ 140737488355328 ∧ n + i + 1 ≤ maxLen := by
  unfold maxLen
  omega

set_option maxHeartbeats 8000000 in
set_option maxRecDepth 100000 in
theorem copied_any (a : Option Addr) (n c : Nat) (l : List Ent) (w : World) (hx : EsIn w a n c l) :
    Calls Tryd.prog 13 #[.slice a n c] w fun e w' => ∃ a' c', e = .returned (.slice a' n c') ∧ RoomE w' a' n c' l ∧ Fr w [] (blks (.slice a' n c')) ∧ Keep [] w w' := by
  have hn : (n + 40) * 56 ≤ 140737488355328 := by have := hx.short; omega
  obtain ⟨z, hzs, hmk⟩ := make_ents n hn w
  obtain ⟨H, hH⟩ : ∃ H, w.heap.size = H := ⟨_, rfl⟩
  have S0 := sl_of_make w z n hn hzs
  obtain ⟨W, hW⟩ : ∃ W, w.alloc (.cells z 37) = W := ⟨_, rfl⟩
  have kW : Keep [] w W := by rw [← hW]; exact (Keep.refl [] w).alloc _
  rw [hW, hH] at S0
  have hrW := hx.rd.keep kW (by simp)
  have HL := Lib.hid hx.hlen
  have HW := Lib.hid hW
  have HH := Lib.hid hH
  rw [hW, hH] at hmk
  have F0 : Fr w [] (blks (.slice (some ⟨H, 0, none⟩) 0 (n + 40))) := fun b hb => by
    have e : b = H := by simpa [blks, Value.ownBlock] using hb
    right; rw [e, ← hH]; exact Nat.le_refl _
  have s3 : IntKind.i64.wrap ((n : Int) + 40) = (n : Int) + 40 := IntWalk.i64_in _ (by omega)
  have hnil := hx.hnil
  clear hW hH hx hzs
  go_enter Tryd.func13, Tryd.ntmps13
  go_upto_region 2 with (first
    | (at_builtin; go_must (refine wpList_appendN rfl (.tmp 8) (.tmp 9) 24 rfl 37 _ 34 56 Tryd.underlying24 info37 zeroC37 (by omega) (.slice (some ⟨H, 0, none⟩) 0 (n + 40)) 0 [] rfl S0 a n c (cellsOf l) rfl (by rw [cellsOf_len, HL.out]) hnil hrW (cellsOf_all l) (by simp only [maxLen]; omega) (by omega) ?_; intro a1 c1 w1 hs1 hk1 hf1))
    | (simp only [hmk]))
  have kk1 : Keep [] w w1 := kW.trans hk1 (fun b hb => by rcases F0 b hb with h | h; cases h; exact Or.inr h)
  have F1 := F0.trans hf1 kW.size
  simp only [Nat.zero_add, List.nil_append] at hs1 F1
  clear hf1 hk1 F0 S0 kW hmk hrW hnil
  go_upto_region 3 with fail
  go_loopw [3, 4] (fun v3 v4 wr => ∃ (i : Nat) (a' : Option Addr) (c' : Nat), i ≤ 40 ∧ v4 = .int .i64 (i : Nat) ∧ v3 = .slice a' (n + i) c' ∧ Sl wr 37 34 (.slice a' (n + i) c') (n + i) (cellsOf (l ++ marksE i)) ∧ Fr w [] (blks (.slice a' (n + i) c')) ∧ Keep [] w wr) (fun _ v4 _ => 40 - (intOf v4).toNat)
  case atStart => exact ⟨0, a1, c1, by omega, rfl, rfl, by simpa [marksE] using hs1, F1, kk1⟩
  case round =>
    clear hs1 F1 kk1
    obtain ⟨i, a', c', hi, rfl, rfl, sI, fI, kI⟩ := hrel
    by_cases hlt : i < 40
    · have i1 : (i : Int) < 40 := by omega
      obtain ⟨x, hx⟩ : ∃ x, markE i = x := ⟨_, rfl⟩
      have MK := Lib.hid (by have := marked_any i hlt wr; rwa [hx] at this : Calls Tryd.prog 30 #[.int .i64 (i : Nat)] wr fun e w' => e = .returned (.agg x.cells.toArray) ∧ Keep [] wr w')
      have HXX := Lib.hid hx
      have HB1 := Lib.hid (room_bnd hn hlt)
      clear hx
      go_upto_region 4 with (first
        | (go_at_call 30; refine MK.out.mono ?_; rintro e w2 ⟨rfl, k2⟩; have hab := after_build (x := x) (sI.keep k2 (by simp)); obtain ⟨q8, hq8⟩ : ∃ q, w2.heap.size = q := ⟨_, rfl⟩; obtain ⟨w9, hw9⟩ : ∃ W, w2.alloc (.cells x.cells.toArray 37) = W := ⟨_, rfl⟩; rw [hw9, hq8] at hab; have HW9 := Lib.hid hw9; have HQ8 := Lib.hid hq8; clear hw9 hq8)
        | (refine wpList_build1 rfl 24 37 (.tmp 17) rfl x.cells.toArray rfl _ 34 56 Tryd.underlying24 info37 (by simp [x.len]) (by omega) (by omega) ?_; rw [HW9.out, HQ8.out])
        | (at_builtin; go_must (refine wpList_appendN rfl (.tmp 15) (.tmp 18) 24 rfl 37 _ 34 56 Tryd.underlying24 info37 zeroC37 (by omega) (.slice a' (n + i) c') (n + i) _ rfl hab.1 (some ⟨q8, 0, none⟩) 1 1 x.cells rfl (ent_len1 x) (by simp) hab.2.1 x.one HB1.out.2 HB1.out.1 ?_; intro a6 c6 w6 hs6 hk6 hf6))
        | fail)
      have kk9 := (kI.trans' k2).trans' hab.2.2
      have kk6 : Keep [] w w6 := kk9.trans hk6 (fun b hb => by rcases fI b hb with h | h; cases h; exact Or.inr h)
      have F6 := fI.trans hf6 kk9.size
      have hx6 : cellsOf (l ++ marksE i) ++ x.cells = cellsOf (l ++ marksE (i + 1)) := by rw [marksE_succ, ← List.append_assoc, cellsOf_append (l ++ marksE i), cellsOf_one, HXX.out]
      rw [hx6] at hs6
      clear hk6 hf6 hab MK sI
      go_wp2_with fail
      exact ⟨⟨i + 1, a6, c6, by omega, by go_num, rfl, hs6, F6, kk6⟩, by simp [intOf]; omega⟩
    · obtain rfl : i = 40 := by omega
      have hR : RoomE wr a' n c' l := ⟨HL.out, hn, sI⟩
      obtain ⟨g, off, rfl⟩ := hR.addr
      have hcap := hR.cap
      have hF : Fr w [] (blks (.slice (some ⟨g, off, none⟩) n c')) := fI
      have j1 : (n : Int) ≤ c' := by omega
      clear sI fI
      go_wp2_with fail
      go_returns
      exact ⟨_, c', rfl, hR, hF, kI⟩

set_option maxHeartbeats 8000000 in
set_option maxRecDepth 100000 in
theorem whole_any (a b : Option Addr) (n c m d : Nat) (l l' : List Ent) (w : World) (h : RoomE w a n c l) (hn : ∀ x ∈ l, x.name.size ≤ 9223372036854775807) (hs : n * 56 ≤ 140737488351232) (hy : EsIn w b m d l') :
    Calls Tryd.prog 17 #[.slice a n c, .slice b m d] w fun e w' => e = .returned (.bool (decide (l = l'))) ∧ Keep [] w w' := by
  obtain ⟨g, off, rfl⟩ := h.addr
  have hcap := h.cap
  have hl := h.1
  have CS := Lib.hid (fun W k' => alike_any (some ⟨g, off, none⟩) b n c m d l l' W ((h.keep k' (by simp)).esIn hn hs) (hy.keep k' (by simp)) : ∀ W, Keep [] w W → Calls Tryd.prog 21 #[.slice (some ⟨g, off, none⟩) n c, .slice b m d] W fun e w' => e = .returned (.bool (decide (l = l'))) ∧ Keep [] W w')
  have HH := Lib.hid h
  have hn40 := h.2.1
  have j1 : (n : Int) + 40 ≤ c := by omega
  have j0 : (0 : Int) ≤ (n : Int) + 40 := by omega
  have e0 : ((n : Int) + 40).toNat = n + 40 := by omega
  have s3 : IntKind.i64.wrap ((n : Int) + 40) = (n : Int) + 40 := IntWalk.i64_in _ (by omega)
  obtain ⟨N, hN, hso⟩ := size37
  have HN := Lib.hid hN
  clear hl h hy hN
  go_enter Tryd.func17, Tryd.ntmps17
  go_upto_region 3 with fail
  go_loopw [6] (fun v6 wr => ∃ i : Nat, i ≤ 40 ∧ v6 = .int .i64 (i : Nat) ∧ Keep [] w wr) (fun v6 _ => 40 - (intOf v6).toNat)
  case atStart => exact ⟨0, by omega, rfl, Keep.refl _ _⟩
  case round =>
    obtain ⟨i, hi, rfl, kk⟩ := hrel
    by_cases hlt : i < 40
    · have i1 : (i : Int) < 40 := by omega
      have rI := (HH.out.keep kk (by simp)).mark hlt
      obtain ⟨x, hx⟩ : ∃ x, markE i = x := ⟨_, rfl⟩
      have MK := Lib.hid (fun W => by have := marked_any i hlt W; rwa [hx] at this : ∀ W, Calls Tryd.prog 30 #[.int .i64 (i : Nat)] W fun e w' => e = .returned (.agg x.cells.toArray) ∧ Keep [] W w')
      rw [hx] at rI
      rw [HN.out] at rI
      have e2 : ((n : Int) + i).toNat = n + i := by omega
      have b1 : (n : Int) + i < n + 40 := by omega
      have b2 : (0 : Int) ≤ (n : Int) + i := by omega
      have w1 : IntKind.i64.wrap ((n : Int) + i) = (n : Int) + i := IntWalk.i64_in _ (by omega)
      have t1 : decide (x = x) = true := decide_eq_true rfl
      have ke : Keep [] wr wr.drew := (Keep.refl [] wr).drew
      clear hx
      go_upto_region 5 with fail
      refine wp_region_noPanic ?_
      refine wp_region_held_drew (S := fun w' => w'.rangeAt g (off + (n + i) * N) x.cells) (by kernel_rfl) ?_ (fun hHeld0 => ?_)
      · (try dsimp only); exact rangeAt_keep rI ke (by simp)
      refine wpAnyH_take (i := 0) (oi := ({ dst := some 16, op := Go.Op.move (Go.Operand.tmp 5), type := 24, pos := "law.go:55", after := #[], guard := none } : Oper)) (v := ?_) rfl (by kernel_rfl) (by kernel_rfl) (by kernel_rfl) (fun _ _ _ h => h) (Or.inl ⟨by rfl, ?_⟩) (by assumption) ?_
      rotate_left
      · (intro w hSw; (try dsimp only at hSw); go_simp; try with_reducible rfl)
      try simp only [Act.put, List.setIfInBounds_toArray, List.set_cons_zero, List.set_cons_succ]
      refine wpAnyH_take (i := 1) (oi := ({ dst := some 17, op := Go.Op.move (Go.Operand.tmp 0), type := 24, pos := "law.go:55", after := #[], guard := none } : Oper)) (v := ?_) rfl (by kernel_rfl) (by kernel_rfl) (by kernel_rfl) (fun _ _ _ h => h) (Or.inl ⟨by rfl, ?_⟩) (by assumption) ?_
      rotate_left
      · (intro w hSw; (try dsimp only at hSw); go_simp; try with_reducible rfl)
      try simp only [Act.put, List.setIfInBounds_toArray, List.set_cons_zero, List.set_cons_succ]
      refine wpAnyH_take (i := 2) (oi := ({ dst := some 18, op := Go.Op.call { callee := Go.Callee.builtin Go.Builtin.len, args := #[Go.Operand.tmp 17], argTypes := #[24] }, type := 3, pos := "law.go:55", after := #[{ on := 1, ground := Go.Ground.data }], guard := none } : Oper)) (v := ?_) rfl (by kernel_rfl) (by kernel_rfl) (by kernel_rfl) (fun _ _ _ h => h) (Or.inl ⟨by rfl, ?_⟩) (by assumption) ?_
      rotate_left
      · (intro w hSw; (try dsimp only at hSw); go_simp; try with_reducible rfl)
      try simp only [Act.put, List.setIfInBounds_toArray, List.set_cons_zero, List.set_cons_succ]
      refine wpAnyH_take (i := 3) (oi := ({ dst := some 19, op := Go.Op.move (Go.Operand.tmp 6), type := 3, pos := "law.go:55", after := #[], guard := none } : Oper)) (v := ?_) rfl (by kernel_rfl) (by kernel_rfl) (by kernel_rfl) (fun _ _ _ h => h) (Or.inl ⟨by rfl, ?_⟩) (by assumption) ?_
      rotate_left
      · (intro w hSw; (try dsimp only at hSw); go_simp; try with_reducible rfl)
      try simp only [Act.put, List.setIfInBounds_toArray, List.set_cons_zero, List.set_cons_succ]
      refine wpAnyH_take (i := 4) (oi := ({ dst := some 20, op := Go.Op.binOp Go.BinOp.add 3 (Go.Operand.tmp 18) (Go.Operand.tmp 19) 3, type := 3, pos := "law.go:55", after := #[{ on := 2, ground := Go.Ground.data }, { on := 3, ground := Go.Ground.data }], guard := none } : Oper)) (v := ?_) rfl (by kernel_rfl) (by kernel_rfl) (by kernel_rfl) (fun _ _ _ h => h) (Or.inl ⟨by rfl, ?_⟩) (by assumption) ?_
      rotate_left
      · (intro w hSw; (try dsimp only at hSw); go_simp; try with_reducible rfl)
      try simp only [Act.put, List.setIfInBounds_toArray, List.set_cons_zero, List.set_cons_succ]
      refine wpAnyH_take (i := 5) (oi := ({ dst := some 21, op := Go.Op.indexAddr 24 (Go.Operand.tmp 16) (Go.Operand.tmp 20), type := 0, pos := "law.go:55", after := #[{ on := 0, ground := Go.Ground.data }, { on := 4, ground := Go.Ground.data }], guard := none } : Oper)) (v := ?_) rfl (by kernel_rfl) (by kernel_rfl) (by kernel_rfl) (fun _ _ _ h => h) (Or.inl ⟨by rfl, ?_⟩) (by assumption) ?_
      rotate_left
      · (intro w hSw; (try dsimp only at hSw); go_simp; try with_reducible rfl)
      try simp only [Act.put, List.setIfInBounds_toArray, List.set_cons_zero, List.set_cons_succ]
      refine wpAnyH_take (i := 6) (oi := ({ dst := some 22, op := Go.Op.load 37 (Go.Operand.tmp 21), type := 37, pos := "law.go:55", after := #[{ on := 5, ground := Go.Ground.data }], guard := none } : Oper)) (v := .agg (List.toArray x.cells)) rfl (by kernel_rfl) (by kernel_rfl) (by kernel_rfl) (fun _ _ _ h => h) (yieldsIf_load_mid (by rfl) _ _ rfl _ _ rfl x.cells _ (fun w hSw => hSw) Tryd.underlying37 rfl (hi37 x)) (by assumption) ?_
      try simp only [Act.put, List.setIfInBounds_toArray, List.set_cons_zero, List.set_cons_succ]
      refine wpAnyH_take (i := 7) (oi := ({ dst := some 23, op := Go.Op.move (Go.Operand.tmp 6), type := 3, pos := "law.go:55", after := #[], guard := none } : Oper)) (v := ?_) rfl (by kernel_rfl) (by kernel_rfl) (by kernel_rfl) (fun _ _ _ h => h) (Or.inl ⟨by rfl, ?_⟩) (by assumption) ?_
      rotate_left
      · (intro w hSw; (try dsimp only at hSw); go_simp; try with_reducible rfl)
      try simp only [Act.put, List.setIfInBounds_toArray, List.set_cons_zero, List.set_cons_succ]
      refine wpAnyH_ready (rs := [8]) (by kernel_rfl) (by simp) ?_
      refine (AllReadyH.cons (o := ({ dst := some 24, op := Go.Op.call { callee := Go.Callee.value (Go.Operand.func 30), args := #[Go.Operand.tmp 23], argTypes := #[3] }, type := 37, pos := "law.go:55", after := #[{ on := 7, ground := Go.Ground.data }], guard := none } : Oper)) rfl (fun K hK => ?_) AllReadyH.nil)
      go_simp
      (refine (MK.out _).mono ?_; rintro e w' ⟨rfl, kn⟩; have ke := ke.trans' kn)
      go_wp2_with fail
      refine hK.out _ _ ?_ (fun hHeld1 => ?_)
      · (try dsimp only); exact rangeAt_keep rI ke (by simp)
      clear hK K
      try simp only [Act.put, List.setIfInBounds_toArray, List.set_cons_zero, List.set_cons_succ]
      refine wpAnyH_take (i := 9) (oi := ({ dst := some 25, op := Go.Op.binOp Go.BinOp.neq 37 (Go.Operand.tmp 22) (Go.Operand.tmp 24) 37, type := 4, pos := "law.go:55", after := #[{ on := 6, ground := Go.Ground.data }, { on := 8, ground := Go.Ground.data }], guard := none } : Oper)) (v := ?_) rfl (by kernel_rfl) (by kernel_rfl) (by kernel_rfl) (fun _ _ _ h => h) (Or.inl ⟨by rfl, ?_⟩) (by assumption) ?_
      rotate_left
      · (intro w hSw; (try dsimp only at hSw); go_simp; try with_reducible rfl)
      try simp only [Act.put, List.setIfInBounds_toArray, List.set_cons_zero, List.set_cons_succ]
      refine wpAnyH_done (by kernel_rfl) ?_ _
      refine NoPanic.normal ?_
      skip
      go_wp2_with fail
      exact ⟨⟨i + 1, by omega, by go_num, kk.trans' ke⟩, by simp [intOf]; omega⟩
    · obtain rfl : i = 40 := by omega
      go_wp2_with (first
        | (go_at_call 21; refine (CS.out _ kk).mono ?_; rintro e w1 ⟨rfl, k1⟩)
        | fail)
      go_returns
      exact ⟨rfl, kk.trans' k1⟩
end Go.Proofs.YtgeihjpifbkpkaaDoor

/- Sa Rb Al Tn -/
import Derived.Test.YtpocegdlobnhaaaSx
import Derived.Test.YtpocegdlobnhaaaSt
section
/- same: bytes compared. -/
set_option linter.unusedVariables false
set_option linter.unusedSimpArgs false
namespace Go.Proofs.Ytpocegdlobnhaaa
open Go.RowKit

theorem Rd.byteAt {w : World} {a : Option Addr} {xs : List UInt8} {i : Nat} (h : Rd w a (bs xs)) (hi : i < xs.length) : ∃ x b off, xs[i]? = some x ∧ a = some ⟨b, off, none⟩ ∧ w.cell? ⟨b, off + i, none⟩ = some (B8 x) := by
  have hg := List.getElem?_eq_getElem hi
  rcases h with e | ⟨b, off, e, hc⟩
  · have := congrArg List.length e
    rw [bs_length, List.length_nil] at this; omega
  · exact ⟨_, b, off, hg, e, hc i _ (by simp [bs, hg])⟩

set_option maxHeartbeats 2000000 in
set_option maxRecDepth 100000 in
theorem same_any (a b : Option Addr) (n c m d : Nat) (xs ys : List UInt8) (w : World) (hx : xs.length = n) (rx : Rd w a (bs xs)) (hy : ys.length = m) (ry : Rd w b (bs ys)) (hn : n ≤ 140737488355328) :
    Calls Try.prog 24 #[.slice a n c, .slice b m d] w fun e w' => e = .returned (.bool (decide (xs = ys))) ∧ Keep [] w w' := by
  have HX := Lib.hid hx
  have HY := Lib.hid hy
  by_cases hnm : n = m
  · subst hnm
    clear hx hy
    go_enter Try.func24, Try.ntmps24
    go_upto_region 3 with fail
    go_wp2_with fail
    go_loopw [5] (fun v wr => ∃ i, i ≤ n ∧ v = .int .i64 (i : Nat) ∧ Hid (xs.take i = ys.take i) ∧ Keep [] w wr) (fun v _ => n - (intOf v).toNat)
    case atStart => exact ⟨0, by omega, rfl, Lib.hid (by simp), Keep.refl _ _⟩
    case round =>
      obtain ⟨i, hi, rfl, HT, kk⟩ := hrel
      by_cases hlt : i < n
      · obtain ⟨x, b1, o1, ex, rfl, cx⟩ := Rd.byteAt (rx.keep kk (fun _ => by simp)) (i := i) (by rw [HX.out]; exact hlt)
        obtain ⟨y, b2, o2, ey, rfl, cy⟩ := Rd.byteAt (ry.keep kk (fun _ => by simp)) (i := i) (by rw [HY.out]; exact hlt)
        have i0 : (0 : Int) ≤ i := by omega
        have i1 : (i : Int) < n := by omega
        have HEX := Lib.hid ex
        have HEY := Lib.hid ey
        clear ex ey
        by_cases hxy : x = y
        · subst hxy
          go_wp2_with fail
          go_quiet (fail)
          go_wp2_with fail
          refine ⟨⟨i + 1, by omega, by go_num, Lib.hid ?_, kk.drewN⟩, by simp [intOf]; omega⟩
          rw [List.take_add_one, List.take_add_one, HT.out, HEX.out, HEY.out]
        · have t1 : (((x.toNat : Nat) : Int) == (y.toNat : Nat)) = false := by simp only [beq_eq_false_iff_ne]; intro e; exact hxy (UInt8.toNat_inj.1 (by omega))
          have t2 : ¬ ((x.toNat : Nat) : Int) = (y.toNat : Nat) := by intro e; exact hxy (UInt8.toNat_inj.1 (by omega))
          have HXY := Lib.hid hxy
          clear hxy
          go_wp2_with fail
          go_quiet (fail)
          go_wp2_with fail
          go_returns
          refine ⟨?_, kk.drewN⟩
          rw [decide_eq_false (fun e => HXY.out (by have h1 := HEX.out; have h2 := HEY.out; rw [e, h2] at h1; exact (Option.some.inj h1).symm))]
          rfl
      · have e : i = n := by omega
        have HE := Lib.hid e
        clear e
        go_wp2_with fail
        go_returns
        refine ⟨?_, kk⟩
        have := HT.out
        rw [List.take_of_length_le (by rw [HX.out, HE.out]; exact Nat.le_refl _), List.take_of_length_le (by rw [HY.out, HE.out]; exact Nat.le_refl _)] at this
        rw [decide_eq_true this]
        rfl
  · have q : ¬ (n : Int) = m := by omega
    have q2 : ((n : Int) == m) = false := by simp; omega
    have HNM := Lib.hid hnm
    clear hnm hx hy
    go_enter Try.func24, Try.ntmps24
    go_wp2_with fail
    go_returns
    exact ⟨by rw [decide_eq_false (fun e => HNM.out (by rw [← HX.out, ← HY.out, e]))]; rfl, Keep.refl _ _⟩
end Go.Proofs.Ytpocegdlobnhaaa
end
section
/- roomy: bytes with marked ones behind their end; stands: are they as they were? -/
set_option linter.unusedVariables false
set_option linter.unusedSimpArgs false
namespace Go.Proofs.Ytpocegdlobnhaaa
open Go.RowKit

/-- The first i marks. -/
def marksB (i : Nat) : List UInt8 := (List.range i).map fun k => UInt8.ofNat (99 + k)
theorem marksB_len (i : Nat) : (marksB i).length = i := by simp [marksB]
theorem marksB_succ (i : Nat) : marksB (i + 1) = marksB i ++ [UInt8.ofNat (99 + i)] := by simp [marksB, List.range_succ]
theorem marksB_get {i k : Nat} (h : k < i) : (marksB i)[k]? = some (UInt8.ofNat (99 + k)) := by simp [marksB, h]
/-- Bytes, and 40 marks behind them. -/
def RoomB (w : World) (a : Option Addr) (n c : Nat) (xs : List UInt8) : Prop := xs.length = n ∧ n + 40 ≤ 140737488355328 ∧ Sl w 5 1 (.slice a (n + 40) c) (n + 40) (bs (xs ++ marksB 40))
theorem RoomB.keep {w w' : World} {S : List Nat} {a : Option Addr} {n c : Nat} {xs : List UInt8} (h : RoomB w a n c xs) (k : Keep S w w') (hS : ∀ b ∈ blks (.slice a n c), b ∉ S) : RoomB w' a n c xs := ⟨h.1, h.2.1, h.2.2.keep k (by cases a <;> exact hS)⟩
theorem RoomB.addr {w : World} {a : Option Addr} {n c : Nat} {xs : List UInt8} (h : RoomB w a n c xs) : ∃ g off, a = some ⟨g, off, none⟩ := by
  obtain ⟨g, off, e, _⟩ := h.2.2.rd.at (k := 0) (by rw [bs_length, List.length_append, marksB_len]; omega)
  exact ⟨g, off, e⟩
theorem RoomB.cap {w : World} {a : Option Addr} {n c : Nat} {xs : List UInt8} (h : RoomB w a n c xs) : n + 40 ≤ c := by
  obtain ⟨a', c', e, _, _, hle, _, _⟩ := h.2.2.form
  simp only [Value.slice.injEq, true_and] at e
  omega
theorem RoomB.rd {w : World} {a : Option Addr} {n c : Nat} {xs : List UInt8} (h : RoomB w a n c xs) : Rd w a (bs xs) := by
  rcases h.2.2.rd with e | ⟨b, off, e, hc⟩
  · have := congrArg List.length e
    rw [bs_length, List.length_append, marksB_len] at this; simp at this
  · refine Or.inr ⟨b, off, e, fun k v hk => hc k v ?_⟩
    rw [bs_append, List.getElem?_append_left (List.getElem?_eq_some_iff.1 hk).1]; exact hk
theorem make_bytes (n : Nat) (h : n + 40 ≤ 140737488355328) (w : World) : (Instr.makeSlice 22 (.int .i64 0) (.int .i64 ((n : Int) + 40))).run Try.prog w = .ok (.slice (some ⟨w.heap.size, 0, none⟩) 0 (n + 40)) (w.alloc (.cells (Array.replicate (n + 40) (.int .u8 0)) 5)) := by
  obtain ⟨i, hi, hz, hs, hb⟩ := info_parts info5
  have hr := run_make (P := Try.prog) w 22 5 i (.int .u8 0) Try.underlying22 hi hz .i64 .i64 0 ((n : Int) + 40) (by omega) (by omega) (by rw [hb]; omega) (by omega)
  have e : ((n : Int) + 40).toNat = n + 40 := by omega
  rw [e, hs] at hr
  rw [hr]
  have e2 : madeCells (Value.int .u8 0).cells ((n + 40) * 1) = Array.replicate (n + 40) (Value.int .u8 0) := by
    rw [Nat.mul_one]
    unfold madeCells
    apply Array.ext
    · simp
    · intro j h1 h2; simp [Value.cells, Nat.mod_one]
  rw [e2]; rfl

set_option maxHeartbeats 1000000 in
set_option maxRecDepth 100000 in
theorem roomy_any (a : Option Addr) (n c : Nat) (xs : List UInt8) (w : World) (hl : xs.length = n) (hc : a = none → c = 0) (hrd : Rd w a (bs xs)) (hn : n + 40 ≤ 140737488355328) :
    Calls Try.prog 15 #[.slice a n c] w fun e w' => ∃ a' c', e = .returned (.slice a' n c') ∧ RoomB w' a' n c' xs ∧ Fr w [] (blks (.slice a' n c')) ∧ Keep [] w w' := by
  have hmk : ∀ w, (Instr.makeSlice 22 (.int .i64 0) (.int .i64 ((n : Int) + 40))).run Try.prog w = .ok (.slice (some ⟨w.heap.size, 0, none⟩) 0 (n + 40)) (w.alloc (.cells (Array.replicate (n + 40) (.int .u8 0)) 5)) := make_bytes n hn
  obtain ⟨H, hH⟩ : ∃ H, w.heap.size = H := ⟨_, rfl⟩
  obtain ⟨W, hW⟩ : ∃ W, w.alloc (.cells (Array.replicate (n + 40) (.int .u8 0)) 5) = W := ⟨_, rfl⟩
  have S0 : Sl W 5 1 (.slice (some ⟨H, 0, none⟩) 0 (n + 40)) 0 [] := by
    rw [← hW, ← hH]
    exact ⟨rfl, Or.inr ⟨w.heap.size, n + 40, [], List.replicate (n + 40) (.int .u8 0), rfl, by simpa using Blk.new w (Array.replicate (n + 40) (.int .u8 0)) 5, by omega, by simp, by simp only [maxLen]; omega⟩⟩
  have kW : Keep [] w W := by rw [← hW]; exact (Keep.refl [] w).alloc _
  have hrW := hrd.keep kW (by simp)
  have HL := Lib.hid hl
  have HW := Lib.hid hW
  have HH := Lib.hid hH
  have F0 : Fr w [] (blks (.slice (some ⟨H, 0, none⟩) 0 (n + 40))) := fun b hb => by
    have e : b = H := by simpa [blks, Value.ownBlock] using hb
    right; rw [e, ← hH]; exact Nat.le_refl _
  have s3 : IntKind.i64.wrap ((n : Int) + 40) = (n : Int) + 40 := IntWalk.i64_in _ (by omega)
  clear hW hH hl hrd
  go_enter Try.func15, Try.ntmps15
  go_upto_region 2 with (first
    | (at_builtin; go_must (refine wpList_appendN rfl (.tmp 8) (.tmp 9) 22 rfl 5 (.int .u8 0) 1 1 Try.underlying22 info5 rfl (by omega) (.slice (some ⟨H, 0, none⟩) 0 (n + 40)) 0 [] rfl S0 a n c (bs xs) rfl (by rw [bs_length, HL.out, Nat.mul_one]) hc hrW (bs_one xs) (by simp only [maxLen]; omega) (by omega) ?_; intro a1 c1 w1 hs1 hk1 hf1))
    | (simp only [hmk, HW.out, HH.out]))
  have kk1 : Keep [] w w1 := kW.trans hk1 (fun b hb => by rcases F0 b hb with h | h; cases h; exact Or.inr h)
  have F1 := F0.trans hf1 kW.size
  simp only [Nat.zero_add, List.nil_append] at hs1 F1
  clear hf1 hk1 F0 S0 kW hmk hrW
  go_upto_region 3 with fail
  go_loopw [3, 4] (fun v3 v4 wr => ∃ (i : Nat) (a' : Option Addr) (c' : Nat), i ≤ 40 ∧ v4 = .int .i64 (i : Nat) ∧ v3 = .slice a' (n + i) c' ∧ Sl wr 5 1 (.slice a' (n + i) c') (n + i) (bs (xs ++ marksB i)) ∧ Fr w [] (blks (.slice a' (n + i) c')) ∧ Keep [] w wr) (fun _ v4 _ => 40 - (intOf v4).toNat)
  case atStart => exact ⟨0, a1, c1, by omega, rfl, rfl, by simpa [marksB] using hs1, F1, kk1⟩
  case round =>
    clear hs1 F1 kk1
    obtain ⟨i, a', c', hi, rfl, rfl, sI, fI, kI⟩ := hrel
    by_cases hlt : i < 40
    · have i1 : (i : Int) < 40 := by omega
      have e1 : IntKind.u8.wrap (99 + (i : Int)) = 99 + i := by simp only [IntKind.wrap_u8]; omega
      go_upto_region 4 with (first
        | (at_builtin; refine wpList_append1 wr rfl (.tmp 15) (.tmp 19) 22 rfl 5 (.int .u8 0) 1 Try.underlying22 info5 rfl (.int .u8 (99 + (i : Int))) rfl (.slice a' (n + i) c') (n + i) _ rfl sI rfl (by simp only [maxLen]; omega) (by omega) ?_; intro a2 c2 w2 hs2 hk2 hf2)
        | fail)
      have hb : B8 (UInt8.ofNat (99 + i)) = .int .u8 (99 + (i : Int)) := by
        simp only [B8, UInt8.toNat_ofNat', Value.int.injEq, true_and]; omega
      have hx : bs (xs ++ marksB i) ++ [Value.int .u8 (99 + (i : Int))] = bs (xs ++ marksB (i + 1)) := by
        rw [marksB_succ, ← List.append_assoc, bs_append (xs ++ marksB i), ← hb]; rfl
      rw [hx] at hs2
      have kk2 : Keep [] w w2 := kI.trans hk2 (fun b hb => by rcases fI b hb with h | h; cases h; exact Or.inr h)
      have F2 := fI.trans hf2 kI.size
      clear hk2 hf2 sI
      go_wp2_with fail
      exact ⟨⟨i + 1, a2, c2, by omega, by go_num, rfl, hs2, F2, kk2⟩, by simp [intOf]; omega⟩
    · obtain rfl : i = 40 := by omega
      have hR : RoomB wr a' n c' xs := ⟨HL.out, hn, sI⟩
      obtain ⟨g, off, rfl⟩ := hR.addr
      have hcap := hR.cap
      have hF : Fr w [] (blks (.slice (some ⟨g, off, none⟩) n c')) := fI
      have j1 : (n : Int) ≤ c' := by omega
      clear sI fI
      go_wp2_with fail
      go_returns
      exact ⟨_, c', rfl, hR, hF, kI⟩

set_option maxHeartbeats 1000000 in
set_option maxRecDepth 100000 in
theorem stands_any (a b : Option Addr) (n c m d : Nat) (xs ys : List UInt8) (w : World) (h : RoomB w a n c xs) (hm : ys.length = m) (ry : Rd w b (bs ys)) :
    Calls Try.prog 19 #[.slice a n c, .slice b m d] w fun e w' => e = .returned (.bool (decide (xs = ys))) ∧ Keep [] w w' := by
  obtain ⟨g, off, rfl⟩ := h.addr
  have hcap := h.cap
  have hn := h.2.1
  have hl := h.1
  have CS := Lib.hid (fun W k' => same_any (some ⟨g, off, none⟩) b n c m d xs ys W h.1 (h.rd.keep k' (by simp)) hm (ry.keep k' (by simp)) (by omega) : ∀ W, Keep [] w W → Calls Try.prog 24 #[.slice (some ⟨g, off, none⟩) n c, .slice b m d] W fun e w' => e = .returned (.bool (decide (xs = ys))) ∧ Keep [] W w')
  have hmark : ∀ i, i < 40 → w.cell? ⟨g, off + (n + i), none⟩ = some (.int .u8 (99 + (i : Int))) := fun i hi => by
    rcases h.2.2.rd with e | ⟨b', off', e, hc⟩
    · have := congrArg List.length e
      rw [bs_length, List.length_append, marksB_len] at this; simp at this
    · obtain ⟨rfl, rfl⟩ : g = b' ∧ off = off' := by simpa [sAddr] using e
      refine hc (n + i) _ ?_
      rw [bs, List.getElem?_map, List.getElem?_append_right (by omega), hl, Nat.add_sub_cancel_left, marksB_get hi]
      simp only [Option.map_some, B8, UInt8.toNat_ofNat', Option.some.injEq, Value.int.injEq, true_and]; omega
  have HMK := Lib.hid hmark
  have j1 : (n : Int) + 40 ≤ c := by omega
  have j0 : (0 : Int) ≤ (n : Int) + 40 := by omega
  have e0 : ((n : Int) + 40).toNat = n + 40 := by omega
  have s3 : IntKind.i64.wrap ((n : Int) + 40) = (n : Int) + 40 := IntWalk.i64_in _ (by omega)
  clear hmark hl
  go_enter Try.func19, Try.ntmps19
  go_upto_region 3 with fail
  go_loopw [6] (fun v6 wr => ∃ i : Nat, i ≤ 40 ∧ v6 = .int .i64 (i : Nat) ∧ wr = w) (fun v6 _ => 40 - (intOf v6).toNat)
  case atStart => exact ⟨0, by omega, rfl, rfl⟩
  case round =>
    obtain ⟨i, hi, rfl, rfl⟩ := hrel
    by_cases hlt : i < 40
    · have i1 : (i : Int) < 40 := by omega
      have cI := HMK.out i hlt
      have e1 : IntKind.u8.wrap (99 + (i : Int)) = 99 + i := by simp only [IntKind.wrap_u8]; omega
      have e2 : ((n : Int) + i).toNat = n + i := by omega
      have b1 : (n : Int) + i < n + 40 := by omega
      have b2 : (0 : Int) ≤ (n : Int) + i := by omega
      go_wp2_with fail
      exact ⟨⟨i + 1, by omega, by go_num, trivial⟩, by simp [intOf]; omega⟩
    · obtain rfl : i = 40 := by omega
      go_wp2_with (first
        | (go_at_call 24; refine (CS.out _ (Keep.refl _ _)).mono ?_; rintro e w1 ⟨rfl, k1⟩)
        | fail)
      go_returns
      exact ⟨rfl, k1⟩
end Go.Proofs.Ytpocegdlobnhaaa
end
section
/- alike: a signature and one of the same content. -/
set_option linter.unusedVariables false
set_option linter.unusedSimpArgs false
set_option maxRecDepth 100000
namespace Go.Proofs.Ytpocegdlobnhaaa
open Go.RowKit
attribute [local go_sem ↓] Go.wp_at_zero Go.wp_at_succ eql_wk

theorem alloc_size (w : World) (o : Obj) : (w.alloc o).heap.size = w.heap.size + 1 := by simp only [World.alloc, Array.size_push]
set_option maxHeartbeats 4000000 in
theorem alike_eq (s : Sg) (a a' : Option Addr) (n c c' : Nat) (w : World) (hx : WsIn w a n c s.blocks) (hy : WsIn w a' n c' s.blocks) :
    Calls Try.prog 18 #[.agg (s.cells a n c).toArray, .agg (s.cells a' n c').toArray] w fun e w' => e = .returned (.bool true) ∧ Keep [] w w' := by
  have B2 : Blk (w.alloc (.cells (s.cells a n c).toArray 29)) w.heap.size (s.cells a n c).toArray 29 := Blk.new _ _ _
  have k0 : Keep [] w (w.alloc (.cells (s.cells a n c).toArray 29)) := (Keep.refl [] w).alloc _
  obtain ⟨W, hW⟩ : ∃ W, w.alloc (.cells (s.cells a n c).toArray 29) = W := ⟨_, rfl⟩
  obtain ⟨p, hp⟩ : ∃ b, w.heap.size = b := ⟨_, rfl⟩
  rw [hW, hp] at B2
  rw [hW] at k0
  have B3 : Blk (W.alloc (.cells (s.cells a' n c').toArray 29)) W.heap.size (s.cells a' n c').toArray 29 := Blk.new _ _ _
  have k1 : Keep [] W (W.alloc (.cells (s.cells a' n c').toArray 29)) := (Keep.refl [] W).alloc _
  obtain ⟨W3, hW3⟩ : ∃ V, W.alloc (.cells (s.cells a' n c').toArray 29) = V := ⟨_, rfl⟩
  obtain ⟨q, hq⟩ : ∃ b, W.heap.size = b := ⟨_, rfl⟩
  rw [hW3, hq] at B3
  rw [hW3] at k1
  have HQ1 := Lib.hid (show p + 1 = q by rw [← hq, ← hW, ← hp]; exact (alloc_size w _).symm)
  have HW := Lib.hid hW
  have HP := Lib.hid hp
  have HW3 := Lib.hid hW3
  have HQ := Lib.hid hq
  have kk := k0.trans' k1
  have B2' := B2.keep k1 (by simp)
  have hx1 := hx.keep kk (by simp)
  have hy1 := hy.keep kk (by simp)
  have hl := hx.hlen
  have HL := Lib.hid hl
  have hsh := hx.short
  have hn : n ≤ 3518437208884 := by omega
  have q0 := sg_width B2'
  have q1 := sg_size B2'
  have q2 := sg_length B2'
  have q3 := sg_base B2'
  have q4 := sg_blocks B2'
  have r0 := sg_width B3
  have r1 := sg_size B3
  have r2 := sg_length B3
  have r3 := sg_base B3
  have r4 := sg_blocks B3
  obtain ⟨cs, hcs⟩ : ∃ cs, (s.cells a n c).toArray = cs := ⟨_, rfl⟩
  obtain ⟨ds, hds⟩ : ∃ ds, (s.cells a' n c').toArray = ds := ⟨_, rfl⟩
  have hi6 := hi26 s.lb
  have heq : ∀ w, (Op.equalIn 10000 26 (.agg (bs s.base).toArray) (.agg (bs s.base).toArray)).run Try.prog w = .ok true w := fun w => by
    have := eql_id 9998 s.base s.base s.lb s.lb w
    rwa [beq_self_eq_true] at this
  rw [hcs] at HW
  rw [hds] at HW3
  rw [hcs, hds]
  obtain ⟨wd, sz, ln, bse, bl, lb⟩ := s
  simp only at q0 q1 q2 q3 q4 r0 r1 r2 r3 r4 hx1 hy1 HL heq hi6
  clear hW hp hW3 hq B2 B3 B2' hcs hds k0 k1 hx hy hl hsh
  obtain ⟨N, hN, hso⟩ := size45
  have HN := Lib.hid hN
  clear hN
  go_enter Try.func18, Try.ntmps18
  go_upto_region 1 with fail
  rw [HW.out, HP.out, HQ1.out, HW3.out]
  go_upto_region 3 with (first
    | (refine wpList_load_mid_w 26 (.tmp 26) rfl rfl p 3 rfl (bs bse) _ q3 Try.underlying26 rfl hi6 ?_)
    | (refine wpList_load_mid_w 26 (.tmp 28) rfl rfl q 3 rfl (bs bse) _ r3 Try.underlying26 rfl hi6 ?_)
    | fail)
  go_wp2_with fail
  clear q3 r3 hi6 heq q0 q1 q2 r0 r1 r2
  go_loopw [5] (fun v wr => ∃ i, i ≤ n ∧ v = .int .i64 (i : Nat) ∧ Keep [] W3 wr) (fun v _ => n - (intOf v).toNat)
  case atStart => exact ⟨0, by omega, rfl, Keep.refl _ _⟩
  case round =>
    obtain ⟨i, hi, rfl, kr⟩ := hrel
    have q4 := kr.cell q4 (by simp)
    have r4 := kr.cell r4 (by simp)
    by_cases hlt : i < n
    · obtain ⟨x, b1, o1, ex, rfl, rx⟩ := (hx1.keep kr (by simp)).at hlt
      obtain ⟨y, b2, o2, ey, rfl, ry⟩ := (hy1.keep kr (by simp)).at hlt
      obtain rfl : x = y := by rw [ex] at ey; exact Option.some.inj ey
      have i0 : (0 : Int) ≤ i := by omega
      have i1 : (i : Int) < n := by omega
      rw [HN.out] at rx ry
      have l1 := load_range rx (x.len.trans HN.out)
      have l2 := load_range ry (x.len.trans HN.out)
      have t1 : decide (x = x) = true := by simp
      clear ex ey rx ry
      go_wp2_with fail
      go_quiet (fail)
      go_wp2_with fail
      exact ⟨⟨i + 1, by omega, by go_num, kr.drewN⟩, by simp [intOf]; omega⟩
    · have e : i = n := by omega
      have HE := Lib.hid e
      clear e
      go_wp2_with fail
      go_returns
      exact ⟨rfl, kk.trans' kr⟩
end Go.Proofs.Ytpocegdlobnhaaa
end
section
/- round, turned: a byte of a row turned, in it and in what it was. -/
set_option linter.unusedVariables false
set_option linter.unusedSimpArgs false
set_option maxRecDepth 100000
namespace Go.Proofs.Ytpocegdlobnhaaa
open Go.RowKit

set_option maxHeartbeats 1000000 in
theorem round_any (v : Int) (n : Nat) (hn : 0 < n) (hs : n ≤ 140737488355328) (w : World) :
    Calls Try.prog 38 #[.int .i64 v, .int .i64 n] w fun e w' => ∃ k : Nat, k < n ∧ e = .returned (.int .i64 (k : Nat)) ∧ w' = w := by
  obtain ⟨R, hR⟩ : ∃ R, v.tmod n = R := ⟨_, rfl⟩
  have h1 : R < n := by rw [← hR]; exact Int.tmod_lt_of_pos v (by omega)
  have h2 : -(n : Int) < R := by
    rw [← hR]
    have := Int.lt_tmod_of_pos v (b := n) (by omega)
    exact this
  have hz0 : ((n : Int) == 0) = false := by simp; omega
  have hz1 : ¬ (n : Int) = 0 := by omega
  have hz2 : ¬ n = 0 := by omega
  have hw : IntKind.i64.wrap R = R := IntWalk.i64_in _ (by omega)
  go_enter Try.func38, Try.ntmps38
  by_cases hr : R < 0
  · have hw2 : IntKind.i64.wrap (R + n) = R + n := IntWalk.i64_in _ (by omega)
    obtain ⟨k, hk⟩ : ∃ k : Nat, R + n = k := ⟨(R + n).toNat, by omega⟩
    have hk1 : k < n := by omega
    go_wp2_with fail
    go_returns
    exact ⟨k, hk1, rfl, rfl⟩
  · obtain ⟨k, rfl⟩ : ∃ k : Nat, R = k := ⟨R.toNat, by omega⟩
    have hk1 : k < n := by omega
    go_wp2_with fail
    go_returns
    exact ⟨k, hk1, rfl, rfl⟩

theorem RoomB.put {w : World} {g off n c k : Nat} {xs : List UInt8} (h : RoomB w (some ⟨g, off, none⟩) n c xs) (hk : k < n) (y : UInt8) :
    RoomB (w.setCell ⟨g, off + k, none⟩ (B8 y)) (some ⟨g, off, none⟩) n c (xs.set k y) ∧ Keep [g] w (w.setCell ⟨g, off + k, none⟩ (B8 y)) ∧ w.frozen? ⟨g, off + k, none⟩ = false ∧ w.cell? ⟨g, off + k, none⟩ = (bs xs)[k]? := by
  obtain ⟨p1, p2, p3, p4⟩ := h.2.2.put (k := k) (by omega) (B8 y)
  rw [bs_set, List.set_append_left _ _ (by rw [h.1]; exact hk)] at p1
  refine ⟨⟨by rw [List.length_set]; exact h.1, h.2.1, p1⟩, p2, p3, ?_⟩
  rw [p4, bs_append, List.getElem?_append_left (by rw [bs_length, h.1]; exact hk)]

/-- Turned, in both: what lies there then. -/
def TurnQ (w : World) (a : Option Addr) (n c : Nat) (a2 : Option Addr) (c2 : Nat) (e : Ending) (w' : World) : Prop :=
  ∃ ys, e = .returned (.bool (decide (0 < n))) ∧ RoomB w' a n c ys ∧ Sl w' 5 1 (.slice a2 n c2) n (bs ys) ∧ Keep (blks (.slice a n c) ++ blks (.slice a2 n c2)) w w'

set_option maxHeartbeats 2000000 in
theorem turnedB_any (a : Option Addr) (n c : Nat) (a2 : Option Addr) (c2 : Nat) (xs : List UInt8) (at' : Int) (w : World) (hR : RoomB w a n c xs) (hS : Sl w 5 1 (.slice a2 n c2) n (bs xs)) (hd : ∀ b ∈ blks (.slice a n c), b ∉ blks (.slice a2 n c2)) :
    Calls Try.prog 20 #[.slice a n c, .slice a2 n c2, .int .i64 at'] w (TurnQ w a n c a2 c2) := by
  have hl := hR.1
  have hn := hR.2.1
  have HL := Lib.hid hl
  by_cases h0 : n = 0
  · subst h0
    have HR := Lib.hid hR
    have HS := Lib.hid hS
    clear hR hS hl hd
    go_enter Try.func20, Try.ntmps20
    go_wp2_with fail
    go_returns
    exact ⟨xs, rfl, HR.out, HS.out, Keep.refl _ _⟩
  · obtain ⟨gw, ow, rfl, -⟩ := hS.rd.at (k := 0) (by rw [bs_length]; omega)
    obtain ⟨gb, ob, rfl⟩ := hR.addr
    have hne : gb ≠ gw := by
      have := hd gb (by simp [blks, Value.ownBlock])
      simpa [blks, Value.ownBlock] using this
    have i0 : ((n : Int) == 0) = false := by simp; omega
    have i1 : ¬ (n : Int) = 0 := by omega
    have RD := Lib.hid (round_any at' n (by omega) (by omega) w)
    have HSx := Lib.hid hS
    have HRx := Lib.hid hR
    have hcw : n ≤ c2 := sl_le hS
    clear hl hd hS hR
    go_enter Try.func20, Try.ntmps20
    go_upto_region 4 with (first
      | (go_at_call 38; refine RD.out.mono ?_; rintro e w1 ⟨k, hk, rfl, hww⟩; have hww' := hww.symm; subst hww')
      | fail)
    obtain ⟨x, hxx⟩ : ∃ x, xs[k]? = some x := ⟨_, List.getElem?_eq_getElem (by rw [HL.out]; omega)⟩
    obtain ⟨p1, p2, p3, p4⟩ := HSx.out.put (k := k) hk (B8 (turnB x))
    rw [bs_set] at p1
    rw [bs, List.getElem?_map, hxx] at p4
    have p5 : w.cell? ⟨gw, ow + k, none⟩ = some (.int .u8 (x.toNat : Nat)) := p4
    have HXX := Lib.hid hxx
    clear hxx p4
    have p4 := p5
    clear p5
    have htb := turn_bits x
    have HTB := Lib.hid (show B8 (turnB x) = .int .u8 (bits .xor .u8 (x.toNat : Int) 1) by rw [htb])
    rw [HTB.out] at p1 p2
    obtain ⟨y, hy⟩ : ∃ y, bits .xor .u8 (x.toNat : Int) 1 = y := ⟨_, rfl⟩
    rw [hy] at p1 p2 HTB
    obtain ⟨W8, hW8⟩ : ∃ W, w.setCell ⟨gw, ow + k, none⟩ (.int .u8 y) = W := ⟨_, rfl⟩
    rw [hW8] at p1 p2
    have HW8 := Lib.hid hW8
    have rB8 := HRx.out.keep p2 (fun b hb => by simp [blks, Value.ownBlock] at hb; subst hb; simp only [List.mem_singleton]; omega)
    obtain ⟨q1, q2, q3, q4⟩ := rB8.put (k := k) hk (turnB x)
    rw [bs, List.getElem?_map, HXX.out] at q4
    have q5 : W8.cell? ⟨gb, ob + k, none⟩ = some (.int .u8 (x.toNat : Nat)) := q4
    rw [HTB.out] at q1 q2
    have sW9 := p1.keep q2 (fun b hb => by simp [blks, Value.ownBlock] at hb; subst hb; simp only [List.mem_singleton]; omega)
    have c8 : W8.cell? ⟨gw, ow + k, none⟩ = some (.int .u8 y) := by
      have h1 := p1.rd
      rcases h1 with e | ⟨b', o', e, hc⟩
      · have := congrArg List.length e
        rw [bs_length, List.length_set, HL.out] at this; simp at this; omega
      · obtain ⟨rfl, rfl⟩ : gw = b' ∧ ow = o' := by simpa [sAddr] using e
        refine hc k _ ?_
        rw [bs, List.getElem?_map, List.getElem?_set_self (by rw [HL.out]; omega), Option.map_some, HTB.out]
    have kk9 : Keep [gb, gw] w (W8.setCell ⟨gb, ob + k, none⟩ (.int .u8 y)) := (p2.mono (T := [gb, gw]) (fun b hb => Or.inl (by simp only [List.mem_singleton] at hb; subst hb; simp))).trans (q2.mono (T := [gb, gw]) (fun b hb => Or.inl (by simp only [List.mem_singleton] at hb; subst hb; simp))) (fun b hb => Or.inl hb)
    have HF := Lib.hid (And.intro sW9 (And.intro q1 kk9))
    have j3 : (k : Int) < n := by omega
    have j7 : (0 : Int) ≤ k := by omega
    have j8 : (0 : Int) < n := by omega
    have HD := Lib.hid (show decide (0 < n) = true from decide_eq_true (by omega))
    clear rB8 p1 p2 q1 q2 sW9 kk9 htb hW8 q4 HXX
    have HY := Lib.hid hy
    clear hy
    obtain ⟨X, hX⟩ : ∃ X : Nat, x.toNat = X := ⟨_, rfl⟩
    rw [hX] at p4 q5 HY
    clear hX
    have hy := HY.out
    clear HY
    go_upto_region 5 with fail
    rw [HW8.out]
    clear p3 p4 hy HW8
    go_wp2_with fail
    go_returns
    refine ⟨xs.set k (turnB x), by rw [HD.out]; rfl, HF.out.2.1, HF.out.1, ?_⟩
    have := HF.out.2.2
    simpa [blks, Value.ownBlock] using this
end Go.Proofs.Ytpocegdlobnhaaa
end

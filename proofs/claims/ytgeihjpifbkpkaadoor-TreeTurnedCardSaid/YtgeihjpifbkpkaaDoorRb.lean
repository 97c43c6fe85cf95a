/- roomy: bytes with marked ones behind their end; stands: are they as they were? -/
import Derived.Test.YtgeihjpifbkpkaaDoorSa
set_option linter.unusedVariables false
set_option linter.unusedSimpArgs false
namespace Go.Proofs.YtgeihjpifbkpkaaDoor
open Go.RowKit

/-- The first i marks. -/
def marksB (i : Nat) : List UInt8 := (List.range i).map fun k => UInt8.ofNat (99 + k)
theorem marksB_len (i : Nat) : (marksB i).length = i := by simp [marksB]
theorem marksB_succ (i : Nat) : marksB (i + 1) = marksB i ++ [UInt8.ofNat (99 + i)] := by simp [marksB, List.range_succ]
theorem marksB_get {i k : Nat} (h : k < i) : (marksB i)[k]? = some (UInt8.ofNat (99 + k)) := by simp [marksB, h]
/-- Bytes, and 40 marks behind them. -/
def RoomB (w : World) (a : Option Addr) (n c : Nat) (xs : List UInt8) : Prop := xs.length = n ∧ n + 40 ≤ 140737488355328 ∧ Sl w 5 1 (.slice a (n + 40) c) (n + 40) (bs (xs ++ marksB 40))
theorem RoomB.keep {w w' : World} {S : List Nat} {a : Option Addr} {n c : Nat} {xs : List UInt8} (h : RoomB w a n c xs) (k : Keep S w w') (hS : ∀ b ∈ blks (.slice a n c), b ∉ S) : RoomB w' a n c xs := ⟨h.1, h.2.1, h.2.2.keep k (by cases a <;> exact hS)⟩
theorem RoomB.addr {w : World} {a : Option Addr} {n c : Nat} {xs : List UInt8} (h : RoomB w a n c xs) : ∃ g off, a = some ⟨g, off, none⟩ := by
  obtain ⟨g, off, e, _⟩ := h.2.2.rd.at (k := 0) (by rw [bs_length, List.length_append, marksB_len]; omega)
  exact ⟨g, off, e⟩
theorem RoomB.cap {w : World} {a : Option Addr} {n c : Nat} {xs : List UInt8} (h : RoomB w a n c xs) : n + 40 ≤ c := by
  obtain ⟨a', c', e, _, _, hle, _, _⟩ := h.2.2.form
  simp only [Value.slice.injEq, true_and] at e
  omega
theorem RoomB.rd {w : World} {a : Option Addr} {n c : Nat} {xs : List UInt8} (h : RoomB w a n c xs) : Rd w a (bs xs) := by
  rcases h.2.2.rd with e | ⟨b, off, e, hc⟩
  · have := congrArg List.length e
    rw [bs_length, List.length_append, marksB_len] at this; simp at this
  · refine Or.inr ⟨b, off, e, fun k v hk => hc k v ?_⟩
    rw [bs_append, List.getElem?_append_left (List.getElem?_eq_some_iff.1 hk).1]; exact hk
theorem make_bytes (n : Nat) (h : n + 40 ≤ 140737488355328) (w : World) : (Instr.makeSlice 26 (.int .i64 0) (.int .i64 ((n : Int) + 40))).run Tryd.prog w = .ok (.slice (some ⟨w.heap.size, 0, none⟩) 0 (n + 40)) (w.alloc (.cells (Array.replicate (n + 40) (.int .u8 0)) 5)) := by
  obtain ⟨i, hi, hz, hs, hb⟩ := info_parts info5
  have hr := run_make (P := Tryd.prog) w 26 5 i (.int .u8 0) Tryd.underlying26 hi hz .i64 .i64 0 ((n : Int) + 40) (by omega) (by omega) (by rw [hb]; omega) (by omega)
  have e : ((n : Int) + 40).toNat = n + 40 := by omega
  rw [e, hs] at hr
  rw [hr]
  have e2 : madeCells (Value.int .u8 0).cells ((n + 40) * 1) = Array.replicate (n + 40) (Value.int .u8 0) := by
    rw [Nat.mul_one]
    unfold madeCells
    apply Array.ext
    · simp
    · intro j h1 h2; simp [Value.cells, Nat.mod_one]
  rw [e2]; rfl

set_option maxHeartbeats 1000000 in
set_option maxRecDepth 100000 in
theorem roomy_any (a : Option Addr) (n c : Nat) (xs : List UInt8) (w : World) (hl : xs.length = n) (hc : a = none → c = 0) (hrd : Rd w a (bs xs)) (hn : n + 40 ≤ 140737488355328) :
    Calls Tryd.prog 18 #[.slice a n c] w fun e w' => ∃ a' c', e = .returned (.slice a' n c') ∧ RoomB w' a' n c' xs ∧ Fr w [] (blks (.slice a' n c')) ∧ Keep [] w w' := by
  have hmk : ∀ w, (Instr.makeSlice 26 (.int .i64 0) (.int .i64 ((n : Int) + 40))).run Tryd.prog w = .ok (.slice (some ⟨w.heap.size, 0, none⟩) 0 (n + 40)) (w.alloc (.cells (Array.replicate (n + 40) (.int .u8 0)) 5)) := make_bytes n hn
  obtain ⟨H, hH⟩ : ∃ H, w.heap.size = H := ⟨_, rfl⟩
  obtain ⟨W, hW⟩ : ∃ W, w.alloc (.cells (Array.replicate (n + 40) (.int .u8 0)) 5) = W := ⟨_, rfl⟩
  have S0 : Sl W 5 1 (.slice (some ⟨H, 0, none⟩) 0 (n + 40)) 0 [] := by
    rw [← hW, ← hH]
    exact ⟨rfl, Or.inr ⟨w.heap.size, n + 40, [], List.replicate (n + 40) (.int .u8 0), rfl, by simpa using Blk.new w (Array.replicate (n + 40) (.int .u8 0)) 5, by omega, by simp, by simp only [maxLen]; omega⟩⟩
  have kW : Keep [] w W := by rw [← hW]; exact (Keep.refl [] w).alloc _
  have hrW := hrd.keep kW (by simp)
  have HL := Lib.hid hl
  have HW := Lib.hid hW
  have HH := Lib.hid hH
  have F0 : Fr w [] (blks (.slice (some ⟨H, 0, none⟩) 0 (n + 40))) := fun b hb => by
    have e : b = H := by simpa [blks, Value.ownBlock] using hb
    right; rw [e, ← hH]; exact Nat.le_refl _
  have s3 : IntKind.i64.wrap ((n : Int) + 40) = (n : Int) + 40 := IntWalk.i64_in _ (by omega)
  clear hW hH hl hrd
  go_enter Tryd.func18, Tryd.ntmps18
  go_upto_region 2 with (first
    | (at_builtin; go_must (refine wpList_appendN rfl (.tmp 8) (.tmp 9) 26 rfl 5 (.int .u8 0) 1 1 Tryd.underlying26 info5 rfl (by omega) (.slice (some ⟨H, 0, none⟩) 0 (n + 40)) 0 [] rfl S0 a n c (bs xs) rfl (by rw [bs_length, HL.out, Nat.mul_one]) hc hrW (bs_one xs) (by simp only [maxLen]; omega) (by omega) ?_; intro a1 c1 w1 hs1 hk1 hf1))
    | (simp only [hmk, HW.out, HH.out]))
  have kk1 : Keep [] w w1 := kW.trans hk1 (fun b hb => by rcases F0 b hb with h | h; cases h; exact Or.inr h)
  have F1 := F0.trans hf1 kW.size
  simp only [Nat.zero_add, List.nil_append] at hs1 F1
  clear hf1 hk1 F0 S0 kW hmk hrW
  go_upto_region 3 with fail
  go_loopw [3, 4] (fun v3 v4 wr => ∃ (i : Nat) (a' : Option Addr) (c' : Nat), i ≤ 40 ∧ v4 = .int .i64 (i : Nat) ∧ v3 = .slice a' (n + i) c' ∧ Sl wr 5 1 (.slice a' (n + i) c') (n + i) (bs (xs ++ marksB i)) ∧ Fr w [] (blks (.slice a' (n + i) c')) ∧ Keep [] w wr) (fun _ v4 _ => 40 - (intOf v4).toNat)
  case atStart => exact ⟨0, a1, c1, by omega, rfl, rfl, by simpa [marksB] using hs1, F1, kk1⟩
  case round =>
    clear hs1 F1 kk1
    obtain ⟨i, a', c', hi, rfl, rfl, sI, fI, kI⟩ := hrel
    by_cases hlt : i < 40
    · have i1 : (i : Int) < 40 := by omega
      have e1 : IntKind.u8.wrap (99 + (i : Int)) = 99 + i := by simp only [IntKind.wrap_u8]; omega
      go_upto_region 4 with (first
        | (at_builtin; refine wpList_append1 wr rfl (.tmp 15) (.tmp 19) 26 rfl 5 (.int .u8 0) 1 Tryd.underlying26 info5 rfl (.int .u8 (99 + (i : Int))) rfl (.slice a' (n + i) c') (n + i) _ rfl sI rfl (by simp only [maxLen]; omega) (by omega) ?_; intro a2 c2 w2 hs2 hk2 hf2)
        | fail)
      have hb : B8 (UInt8.ofNat (99 + i)) = .int .u8 (99 + (i : Int)) := by
        simp only [B8, UInt8.toNat_ofNat', Value.int.injEq, true_and]; omega
      have hx : bs (xs ++ marksB i) ++ [Value.int .u8 (99 + (i : Int))] = bs (xs ++ marksB (i + 1)) := by
        rw [marksB_succ, ← List.append_assoc, bs_append (xs ++ marksB i), ← hb]; rfl
      rw [hx] at hs2
      have kk2 : Keep [] w w2 := kI.trans hk2 (fun b hb => by rcases fI b hb with h | h; cases h; exact Or.inr h)
      have F2 := fI.trans hf2 kI.size
      clear hk2 hf2 sI
      go_wp2_with fail
      exact ⟨⟨i + 1, a2, c2, by omega, by go_num, rfl, hs2, F2, kk2⟩, by simp [intOf]; omega⟩
    · obtain rfl : i = 40 := by omega
      have hR : RoomB wr a' n c' xs := ⟨HL.out, hn, sI⟩
      obtain ⟨g, off, rfl⟩ := hR.addr
      have hcap := hR.cap
      have hF : Fr w [] (blks (.slice (some ⟨g, off, none⟩) n c')) := fI
      have j1 : (n : Int) ≤ c' := by omega
      clear sI fI
      go_wp2_with fail
      go_returns
      exact ⟨_, c', rfl, hR, hF, kI⟩

set_option maxHeartbeats 1000000 in
set_option maxRecDepth 100000 in
theorem stands_any (a b : Option Addr) (n c m d : Nat) (xs ys : List UInt8) (w : World) (h : RoomB w a n c xs) (hm : ys.length = m) (ry : Rd w b (bs ys)) :
    Calls Tryd.prog 22 #[.slice a n c, .slice b m d] w fun e w' => e = .returned (.bool (decide (xs = ys))) ∧ Keep [] w w' := by
  obtain ⟨g, off, rfl⟩ := h.addr
  have hcap := h.cap
  have hn := h.2.1
  have hl := h.1
  have CS := Lib.hid (fun W k' => same_any (some ⟨g, off, none⟩) b n c m d xs ys W h.1 (h.rd.keep k' (by simp)) hm (ry.keep k' (by simp)) (by omega) : ∀ W, Keep [] w W → Calls Tryd.prog 16 #[.slice (some ⟨g, off, none⟩) n c, .slice b m d] W fun e w' => e = .returned (.bool (decide (xs = ys))) ∧ Keep [] W w')
  have hmark : ∀ i, i < 40 → w.cell? ⟨g, off + (n + i), none⟩ = some (.int .u8 (99 + (i : Int))) := fun i hi => by
    rcases h.2.2.rd with e | ⟨b', off', e, hc⟩
    · have := congrArg List.length e
      rw [bs_length, List.length_append, marksB_len] at this; simp at this
    · obtain ⟨rfl, rfl⟩ : g = b' ∧ off = off' := by simpa [sAddr] using e
      refine hc (n + i) _ ?_
      rw [bs, List.getElem?_map, List.getElem?_append_right (by omega), hl, Nat.add_sub_cancel_left, marksB_get hi]
      simp only [Option.map_some, B8, UInt8.toNat_ofNat', Option.some.injEq, Value.int.injEq, true_and]; omega
  have HMK := Lib.hid hmark
  have j1 : (n : Int) + 40 ≤ c := by omega
  have j0 : (0 : Int) ≤ (n : Int) + 40 := by omega
  have e0 : ((n : Int) + 40).toNat = n + 40 := by omega
  have s3 : IntKind.i64.wrap ((n : Int) + 40) = (n : Int) + 40 := IntWalk.i64_in _ (by omega)
  clear hmark hl
  go_enter Tryd.func22, Tryd.ntmps22
  go_upto_region 3 with fail
  go_loopw [6] (fun v6 wr => ∃ i : Nat, i ≤ 40 ∧ v6 = .int .i64 (i : Nat) ∧ wr = w) (fun v6 _ => 40 - (intOf v6).toNat)
  case atStart => exact ⟨0, by omega, rfl, rfl⟩
  case round =>
    obtain ⟨i, hi, rfl, rfl⟩ := hrel
    by_cases hlt : i < 40
    · have i1 : (i : Int) < 40 := by omega
      have cI := HMK.out i hlt
      have e1 : IntKind.u8.wrap (99 + (i : Int)) = 99 + i := by simp only [IntKind.wrap_u8]; omega
      have e2 : ((n : Int) + i).toNat = n + i := by omega
      have b1 : (n : Int) + i < n + 40 := by omega
      have b2 : (0 : Int) ≤ (n : Int) + i := by omega
      go_wp2_with fail
      exact ⟨⟨i + 1, by omega, by go_num, trivial⟩, by simp [intOf]; omega⟩
    · obtain rfl : i = 40 := by omega
      go_wp2_with (first
        | (go_at_call 16; refine (CS.out _ (Keep.refl _ _)).mono ?_; rintro e w1 ⟨rfl, k1⟩)
        | fail)
      go_returns
      exact ⟨rfl, k1⟩
end Go.Proofs.YtgeihjpifbkpkaaDoor

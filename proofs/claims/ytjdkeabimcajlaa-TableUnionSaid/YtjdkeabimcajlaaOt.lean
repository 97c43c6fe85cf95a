/- other: a table with its last code turned; kept: whether the room behind is untouched. -/
import Derived.Test.YtjdkeabimcajlaaRo
set_option linter.unusedVariables false
set_option linter.unusedSimpArgs false
namespace Go.Proofs.Ytjdkeabimcajlaa
open Go.RowKit
attribute [local go_sem ↓] Go.wp_at_zero Go.wp_at_succ eql_res

theorem RsIn.of_blk {w : World} {g n c : Nat} {l m : List Res} (h : Blk w g (cellsOf (l ++ m)).toArray 39) (hl : l.length = n) (hc : n ≤ c) (hm : c ≤ 9223372036854775807) (hs : n * 72 ≤ 140737488351232) : RsIn w (some ⟨g, 0, none⟩) n c l := by
  refine ⟨hl, Or.inr ⟨g, 0, rfl, fun k v hk => ?_⟩, hc, (fun e => absurd e (by simp)), hm, hs⟩
  have hk' := (List.getElem?_eq_some_iff.1 hk).1
  exact h.cell (by rw [List.getElem?_toArray, Nat.zero_add, cellsOf_append, List.getElem?_append_left hk']; exact hk)

theorem neq_tail (w : World) : (binOp .neq 39 (.agg tailR.cells.toArray) (.agg (Try.zeroCells39.setIfInBounds 64 (.int .i64 (-77))))).run Try.prog w = .ok (.bool false) w := by
  have h := eql_res tailR tailR w
  have e : Try.zeroCells39.setIfInBounds 64 (.int .i64 (-77)) = tailR.cells.toArray := rfl
  rw [e]
  go_simp

set_option maxHeartbeats 1000000 in
set_option maxRecDepth 100000 in
theorem kept_any (g n c : Nat) (a : Option Addr) (l' l : List Res) (w : World) (hB : Blk w g (cellsOf (l' ++ tails)).toArray 39) (hl' : l'.length = n) (hx : RsIn w a n c l) :
    Calls Try.prog 19 #[.slice (some ⟨g, 0, none⟩) (n + 3) (n + 3), .slice a n c] w fun e w' => e = .returned (.bool (decide (l' = l))) ∧ Keep [] w w' := by
  have hsh := hx.short
  obtain ⟨N, hN, hso⟩ := size39
  have HN := Lib.hid hN
  have HL := Lib.hid hl'
  have i3 : (0 : Int) ≤ n := by omega
  clear hN hl'
  go_enter Try.func19, Try.ntmps19
  go_wp2_with fail
  go_loopw [5] (fun v5 wr => ∃ i : Nat, n ≤ i ∧ i ≤ n + 3 ∧ v5 = .int .i64 (i : Nat) ∧ Keep [] w wr) (fun v5 _ => n + 3 - (intOf v5).toNat)
  case atStart => exact ⟨n, by omega, by omega, rfl, Keep.refl _ _⟩
  case round =>
    obtain ⟨i, hni, hi, rfl, kk⟩ := hrel
    by_cases hlt : i < n + 3
    · have hg : (l' ++ tails)[i]? = some tailR := by
        rw [List.getElem?_append_right (by rw [HL.out]; omega), HL.out]
        have : i - n = 0 ∨ i - n = 1 ∨ i - n = 2 := by omega
        rcases this with h | h | h <;> rw [h] <;> rfl
      have rT : wr.rangeAt g (0 + i * 65) tailR.cells := fun j v hv => by
        have hj := (List.getElem?_eq_some_iff.1 hv).1
        rw [tailR.len] at hj
        rw [Nat.zero_add]
        exact (hB.keep kk (by simp)).cell (by rw [List.getElem?_toArray, cellsOf_get hg hj]; exact hv)
      rw [HN.out, Nat.zero_add] at rT
      have i0 : (0 : Int) ≤ i := by omega
      have i1 : (i : Int) < n + 3 := by omega
      have hnq := neq_tail
      clear hg
      go_wp2_with (first
        | (refine wpList_load_mid rfl 39 (.tmp 16) rfl g (i * N) rfl tailR.cells _ rT Try.underlying39 rfl (hi39 tailR) ?_)
        | fail)
      exact ⟨⟨i + 1, by omega, by omega, by go_num, kk⟩, by simp [intOf]; omega⟩
    · obtain rfl : i = n + 3 := by omega
      have HBX := Lib.hid (And.intro (RsIn.of_blk (c := n + 3) (hB.keep kk (by simp)) HL.out (by omega) (by omega) hsh) (hx.keep kk (by simp)))
      have i5 : (n : Int) ≤ n + 3 := by omega
      clear hB hx
      go_wp2_with (first
        | (go_at_call 24; refine (like_any _ _ n (n + 3) n c l' l wr HBX.out.1 HBX.out.2).mono ?_; rintro e w1 ⟨rfl, k1⟩)
        | fail)
      go_returns
      exact ⟨rfl, kk.trans' k1⟩

def turnR (y : Res) : Res := ⟨y.act, y.root, bits .xor .i64 y.code 1, y.la, y.lr⟩
/-- A table with its last code turned. -/
def flipR (l : List Res) : List Res := match l[l.length - 1]? with | none => l | some y => l.set (l.length - 1) (turnR y)
theorem flip_len (l : List Res) : (flipR l).length = l.length := by unfold flipR; split <;> simp
theorem flip_nil : flipR [] = [] := rfl
theorem flip_at {l : List Res} {n : Nat} {y : Res} (hl : l.length = n) (hy : l[n - 1]? = some y) : flipR l = l.set (n - 1) (turnR y) := by subst hl; unfold flipR; rw [hy]
theorem turn_cells (y : Res) : y.cells.set 64 (.int .i64 (bits .xor .i64 y.code 1)) = (turnR y).cells := by
  have h : (bs y.act).length = 32 := by rw [bs_length, y.la]
  have h2 : (bs y.root).length = 32 := by rw [bs_length, y.lr]
  unfold Res.cells turnR
  rw [List.set_append_right _ _ (by omega), h, List.set_append_right _ _ (by omega), h2]
  rfl
theorem code_set_in {l : List Res} {i : Nat} {x y : Res} {pre post : List Value} (h : l[i]? = some x) (v : Value) (hy : x.cells.set 64 v = y.cells) : (pre ++ (cellsOf l ++ post)).toArray.setIfInBounds (pre.length + (i * 65 + 64)) v = (pre ++ (cellsOf (l.set i y) ++ post)).toArray := by
  obtain ⟨hi, e⟩ := List.getElem?_eq_some_iff.1 h
  have e1 := congrArg Array.toList (code_set h v hy)
  rw [Array.toList_setIfInBounds, List.toList_toArray, List.toList_toArray] at e1
  apply Array.ext'
  rw [Array.toList_setIfInBounds, List.toList_toArray, List.toList_toArray, List.set_append_right _ _ (by omega), Nat.add_sub_cancel_left, List.set_append_left _ _ (by rw [cellsOf_len]; omega), e1]

set_option maxHeartbeats 1000000 in
set_option maxRecDepth 100000 in
theorem other_any (a : Option Addr) (n c : Nat) (l : List Res) (w : World) (hx : RsIn w a n c l) :
    Calls Try.prog 20 #[.slice a n c] w fun e w' => ∃ a' c', e = .returned (.slice a' n c') ∧ Sl w' 39 65 (.slice a' n c') n (cellsOf (flipR l)) ∧ Fr w [] (blks (.slice a' n c')) ∧ Keep [] w w' := by
  have S0 : Sl (w.alloc (.cells #[] 39)) 39 65 (.slice (some ⟨w.heap.size, 0, none⟩) 0 0) 0 [] := Sl.made w 39 65 #[] 0 _ rfl rfl (by simp [maxLen])
  have k0 : Keep [] w (w.alloc (.cells #[] 39)) := (Keep.refl [] w).alloc _
  have f0 : Fr w [] (blks (.slice (some ⟨w.heap.size, 0, none⟩) 0 0)) := Fr.new (w' := w) (by intro b hb; simp [blks, Value.ownBlock] at hb; omega)
  obtain ⟨G, hG⟩ : ∃ G, w.heap.size = G := ⟨_, rfl⟩
  obtain ⟨w0, hw0⟩ : ∃ w0, w.alloc (.cells #[] 39) = w0 := ⟨_, rfl⟩
  rw [hG] at S0 f0
  rw [hw0] at S0 k0
  have hx0 := hx.keep k0 (by simp)
  have m1 := hx.short
  have hnl := Lib.hid (show (cellsOf l).length = n * 65 by rw [cellsOf_len, hx.hlen])
  have HG := Lib.hid hG
  have HW := Lib.hid hw0
  clear hG hw0
  go_enter Try.func20, Try.ntmps20
  go_upto_region 2 with (first
      | (at_builtin; go_must (refine wpList_appendN rfl (.tmp 4) (.tmp 5) 22 rfl 39 (.agg Try.zeroCells39) 65 72 Try.underlying22 info39 zero39 (by omega) (.slice (some ⟨G, 0, none⟩) 0 0) 0 [] rfl S0 a n c (cellsOf l) rfl hnl.out hx0.hnil hx0.rd (cellsOf_all l) (by simp only [maxLen]; omega) (by omega) ?_; intro a1 c1 w6 hs1 hk1 hf1))
      | (simp only [HW.out, HG.out])
      | fail)
  rw [Nat.zero_add, List.nil_append] at hs1
  rw [Nat.zero_add] at hf1
  by_cases hn : n = 0
  · have hl : l = [] := List.eq_nil_of_length_eq_zero (by rw [hx.hlen, hn])
    have HE := Lib.hid (And.intro hn hl)
    have q : ¬ (0 : Int) < n := by omega
    have kk := k0.trans hk1 (fun b hb => by rcases f0 b hb with h | h; cases h; exact Or.inr h)
    have HF := Lib.hid (And.intro hs1 (And.intro (f0.trans hf1 k0.size) kk))
    clear hn hl
    go_wp2_with fail
    go_returns
    exact ⟨a1, c1, rfl, by rw [HE.out.2, flip_nil]; have := HF.out.1; rw [HE.out.2] at this; exact this, HF.out.2.1, HF.out.2.2⟩
  · have hl := hx.hlen
    obtain ⟨y, hy⟩ : ∃ y, l[n - 1]? = some y := ⟨_, List.getElem?_eq_getElem (by omega)⟩
    rcases hs1.2 with ⟨e, h0⟩ | ⟨g, cap, pre, post, e, hb, hnc, hcp, hcm⟩
    · omega
    obtain ⟨rfl, rfl⟩ : a1 = some ⟨g, pre.length, none⟩ ∧ c1 = cap := by simpa using e
    obtain ⟨N, hN, hso⟩ := size39
    obtain ⟨off, hoff⟩ : ∃ off, pre.length = off := ⟨_, rfl⟩
    obtain ⟨z, hz⟩ : ∃ z, y.code = z := ⟨_, rfl⟩
    have hcell : w6.cell? ⟨g, off + (n - 1) * 65 + 64, none⟩ = some (.int .i64 z) := by
      refine hb.cell ?_
      rw [List.getElem?_toArray, ← hoff, Nat.add_assoc, List.getElem?_append_right (by omega), Nat.add_sub_cancel_left, List.getElem?_append_left (by rw [cellsOf_len, hl]; omega), cellsOf_get hy (by omega), ← hz]
      exact y.code_at
    have hfro : w6.frozen? ⟨g, off + (n - 1) * 65 + 64, none⟩ = false := hb.free
    rw [hoff]
    rw [hN] at hcell hfro
    have i0 : (0 : Int) < n := by omega
    have i1 : (0 : Int) ≤ (n : Int) - 1 := by omega
    have i2 : (n : Int) - 1 < n := by omega
    have i3 : IntKind.i64.wrap ((n : Int) - 1) = (n : Int) - 1 := IntWalk.i64_in _ (by omega)
    have i4 : ((n : Int) - 1).toNat = n - 1 := by omega
    have hB' : Blk (w6.setCell ⟨g, off + (n - 1) * 65 + 64, none⟩ (.int .i64 (bits .xor .i64 z 1))) g (pre ++ (cellsOf (flipR l) ++ post)).toArray 39 := by
      have h := hb.set (pre.length + ((n - 1) * 65 + 64)) (.int .i64 (bits .xor .i64 y.code 1))
      rw [code_set_in hy _ (turn_cells y), ← flip_at hl hy, hoff, hz, ← Nat.add_assoc] at h
      exact h
    have hkp : Keep [g] w6 (w6.setCell ⟨g, off + (n - 1) * 65 + 64, none⟩ (.int .i64 (bits .xor .i64 z 1))) := Keep.set_one w6 ⟨g, off + (n - 1) * 65 + 64, none⟩ _
    have kk := k0.trans hk1 (fun b hb => by rcases f0 b hb with h | h; cases h; exact Or.inr h)
    have ff := f0.trans hf1 k0.size
    rw [hN] at hB' hkp
    have HE := Lib.hid (And.intro hB' (And.intro (And.intro hoff hl) (And.intro hnc (And.intro hcp (And.intro hcm (And.intro ff (kk.trans hkp (fun b hb => by rcases ff b (by simpa [blks, Value.ownBlock] using hb) with h | h; cases h; exact Or.inr h))))))))
    clear hN hoff hz hB' hkp kk ff hnc hcp hcm
    go_wp2_with fail
    go_returns
    obtain ⟨hB', ⟨hoff, hl⟩, hnc, hcp, hcm, ff, kk⟩ := HE.out
    have hcl : (cellsOf (flipR l)).length = n * 65 := by rw [cellsOf_len, flip_len, hl]
    refine ⟨_, _, rfl, ⟨hcl, Or.inr ⟨g, c1, pre, post, by rw [hoff], hB', hnc, ?_, hcm⟩⟩, by rw [← hoff]; exact ff, kk⟩
    rw [hcl]; rw [cellsOf_len, hl] at hcp; exact hcp
end Go.Proofs.Ytjdkeabimcajlaa

/- CodeWrites: a script on a new Writer. -/
import Derived.Test.YtkhplfgehcljmaaY
set_option linter.unusedVariables false
set_option linter.unusedSimpArgs false
namespace Go.Proofs.Ytkhplfgehcljmaa
open Go.RowKit

theorem open_script {H : Type} {enc : TypeId × Value → H} {W : World} {base : Nat} {held : Bool} {a : Option Addr} {len cap : Nat} {d : DataW H} {ps : List MemPlace}
    (h : DataW.Trod enc Try.prog W base (fun _ => true) held 33 (.slice a len cap) d ps) (hw : ∀ n ∈ d.weights Try.prog 33, n ≤ reachBytes) : ∃ cs, InCalls W a len cap cs :=
  open_calls Try.underlying33 Try.underlying46 (by kernel_rfl) (by kernel_rfl) Try.underlying3 Try.underlying3 Try.underlying3 Try.underlying23 Try.underlying5 (by kernel_rfl) (by kernel_rfl) h hw
theorem put_len (bad : Bool) (d : List UInt8) (c : Cl) (hc : c.d.length ≤ 2147483647) : (putD (bad || cBad c) d (cBytes c)).length ≤ d.length + c.d.length + 5 := by
  cases hb : (bad || cBad c) with
  | true => simp only [putD, if_true]; omega
  | false =>
    have hcb : cBad c = false := by cases bad <;> simp_all
    simp only [putD, Bool.false_eq_true, if_false, List.length_append]
    have : (cBytes c).length ≤ c.d.length + 5 := by
      unfold cBytes
      unfold cBad at hcb
      by_cases k1 : c.k = 1
      · rw [if_pos k1] at hcb ⊢
        have hn : 0 ≤ c.v ∧ c.v ≤ 2147483647 := by simpa [isNum] using hcb
        have := (numB_len5 (v := c.v.toNat) (by omega)).2; omega
      · rw [if_neg k1] at hcb ⊢
        by_cases k2 : c.k = 2
        · rw [if_pos k2] at hcb ⊢
          have hn : 1 ≤ c.u ∧ c.u ≤ 4 ∧ 0 ≤ c.v ∧ c.v < 2 ^ (8 * c.u.toNat) := by simpa [isFix] using hcb
          rw [fixB_len]; omega
        · rw [if_neg k2]
          by_cases k3 : c.k = 3
          · rw [if_pos k3]; omega
          · rw [if_neg k3]
            by_cases k4 : c.k = 4
            · rw [if_pos k4]; exact textB_len c.d hc
            · rw [if_neg k4]; simp
    omega
/-- A new document's writer. -/
theorem WAt.new (w : World) : WAt (w.alloc (.cells #[.slice none 0 0, .bool false] 43)) w.heap.size [w.heap.size] false [] :=
  ⟨_, Blk.new w _ 43, Sl.nil _ _ _, rfl, by simp [blks, Value.ownBlock]⟩

/-- Blocks that were made since w. -/
def Since (w : World) (S : List Nat) : Prop := ∀ b ∈ S, w.heap.size ≤ b
theorem Since.fr {w w' : World} {S S' : List Nat} (h : Since w S) (hf : Fr w' S S') (k : w.heap.size ≤ w'.heap.size) : Since w S' := fun b hb => by
  rcases hf b hb with h1 | h1
  · exact h b h1
  · omega
theorem Since.keep {w w1 w2 : World} {S : List Nat} (h : Since w S) (k1 : Keep [] w w1) (k2 : Keep S w1 w2) : Keep [] w w2 := k1.trans k2 (fun b hb => Or.inr (h b hb))
theorem InBytes.since {w : World} {a : Option Addr} {l c : Nat} {xs : List UInt8} {S : List Nat} (h : InBytes w a l c xs) (hS : Since w S) (hx : xs ≠ []) : ablk a ∉ S := fun hm => by
  have := h.blk hx; have := hS _ hm; omega

/-- A writer beside the document's. -/
structure Pair (w wr : World) (P X : Nat) (S U : List Nat) (bad : Bool) (d : List UInt8) : Prop where
  mine : WrAt wr P S bad d
  ref : WAt wr X U bad d
  sP : Since w S
  sX : Since w U
  dj : Dj U S
theorem Pair.keep {w wr w' : World} {P X : Nat} {S U T : List Nat} {bad : Bool} {d : List UInt8} (h : Pair w wr P X S U bad d) (k : Keep T wr w') (hS : Dj S T) (hU : Dj U T) : Pair w w' P X S U bad d :=
  ⟨h.mine.keep k hS, h.ref.keep k hU, h.sP, h.sX, h.dj⟩

set_option maxHeartbeats 4000000 in
set_option maxRecDepth 100000 in
theorem codeWrites_walk (a : Option Addr) (len cap : Nat) (cs : List Cl) (w : World) (hx : InCalls w a len cap cs) :
    Calls Try.prog 4 #[.slice a len cap] w fun e w' => e = .returned (.bool true) ∧ Keep [] w w' := by
  have hlong := long_any a len cap cs w hx
  cases hb : longB cs with
  | true =>
    rw [hb] at hlong
    go_enter Try.func4, Try.ntmps4
    go_wp2_with (first | (go_at_call 19; refine hlong.mono ?_; rintro e w1 ⟨rfl, hw⟩; have hw' := hw.symm; subst hw') | fail)
    go_returns
    exact ⟨rfl, Keep.refl _ _⟩
  | false =>
    rw [hb] at hlong
    have hcl : len ≤ 200 ∧ total cs ≤ 200000 := by
      have := hx.hlen
      simp [longB] at hb; omega
    obtain ⟨hlen2, htot⟩ := hcl
    clear hb
    obtain ⟨D, hD⟩ : ∃ D, w.heap.size = D := ⟨_, rfl⟩
    obtain ⟨w0, hw0⟩ : ∃ w0, w.alloc (.cells #[.slice none 0 0] 26) = w0 := ⟨_, rfl⟩
    have hD0 : DkAt w0 D [D, D] := by rw [← hw0, ← hD]; exact DkAt.new w
    have k0 : Keep [] w w0 := by rw [← hw0]; exact (Keep.refl _ _).alloc _
    obtain ⟨P, hP⟩ : ∃ P, w0.heap.size = P := ⟨_, rfl⟩
    obtain ⟨w1, hw1⟩ : ∃ w1, w0.alloc (.cells #[.int .i64 0, .int .i64 0, .slice none 0 0] 40) = w1 := ⟨_, rfl⟩
    have hW1 : WrAt w1 P [P] false [] := by rw [← hw1, ← hP]; exact WrAt.new w0
    have k1 : Keep [] w0 w1 := by rw [← hw1]; exact (Keep.refl _ _).alloc _
    obtain ⟨X, hX⟩ : ∃ X, w1.heap.size = X := ⟨_, rfl⟩
    obtain ⟨w2, hw2⟩ : ∃ w2, w1.alloc (.cells #[.slice none 0 0, .bool false] 43) = w2 := ⟨_, rfl⟩
    have hX2 : WAt w2 X [X] false [] := by rw [← hw2, ← hX]; exact WAt.new w1
    have k2 : Keep [] w1 w2 := by rw [← hw2]; exact (Keep.refl _ _).alloc _
    have kA : Keep [] w w2 := (k0.trans' k1).trans' k2
    have hDlt := hD0.lt D hD0.self
    have hPlt := hW1.lt P hW1.self
    have n1 : w.heap.size ≤ D := by omega
    have n2 : w.heap.size ≤ P := by omega
    have n3 : w.heap.size ≤ X := by omega
    have hp2 : Pair w w2 P X [P] [X] false [] := ⟨hW1.keep k2 (by simp), hX2, by intro b hb; simp at hb; omega, by intro b hb; simp at hb; omega, by intro b hb; simp at hb ⊢; omega⟩
    have hd2 : DkAt w2 D [D, D] := (hD0.keep k1 (by simp)).keep k2 (by simp)
    have sD : Since w [D, D] := by intro b hb; simp at hb; omega
    have djPD : Dj [P] [D, D] := by intro b hb; simp at hb ⊢; omega
    have djXD : Dj [X] [D, D] := by intro b hb; simp at hb ⊢; omega
    go_enter Try.func4, Try.ntmps4
    go_upto_region 6 with (first | (go_at_call 19; refine hlong.mono ?_; rintro e w9 ⟨rfl, hw⟩; have hw' := hw.symm; subst hw') | fail)
    clear hw0 hw1 hw2 hD hP hX hD0 hW1 hX2 k0 k1 k2 hDlt hPlt n1 n2 n3 hlong hw
    go_wp2_with fail
    go_loopw [6, 7] (fun v6 v7 wr => ∃ i T S U bad d, i ≤ len ∧ v6 = .int .i64 (i : Nat) ∧ DkAt wr D T ∧ Pair w wr P X S U bad d ∧ Since w T ∧ Dj S T ∧ Dj U T ∧ Keep [] w wr ∧ d.length ≤ total (cs.take i) + 5 * i) (fun v6 _ _ => len - (intOf v6).toNat)
    case atStart => exact ⟨0, [D, D], [P], [X], false, [], by omega, rfl, hd2, hp2, sD, djPD, djXD, kA, by simp⟩
    case round =>
      clear hd2 hp2 sD djPD djXD kA
      obtain ⟨i, T, S, U, bad, d, hi, rfl, hDk, hpr, hT, hST, hUT, hkw, hdl⟩ := hrel
      by_cases hlt : i < len
      · obtain ⟨c, b, off, ai, li, ci, hc, rfl, d0, d1, d2, d3, ⟨hwk, hwv, hwu⟩, hin⟩ := hx.at hlt
        have hli := hin.hlen
        have ht1 := total_take hc
        have ht2 := total_le cs (i + 1)
        have hbd : d.length ≤ 201000 := by omega
        have hlb : li ≤ 200000 := by omega
        have hnl := put_len bad d c (by omega)
        have hnl2 : (putD (bad || cBad c) d (cBytes c)).length ≤ total (cs.take (i + 1)) + 5 * (i + 1) := by omega
        have hnl3 : (putD (bad || cBad c) d (cBytes c)).length ≤ 402000 := by omega
        have HNL := Lib.hid hnl2
        have C1 := Lib.hid (putDoc_any X U bad d c ai li ci wr hpr.ref (hin.keep hkw (by simp)) (by omega) (by omega))
        have e0 := hkw.cell d0 (by simp)
        have e1 := hkw.cell d1 (by simp)
        have e2 := hkw.cell d2 (by simp)
        have e3 := hkw.cell d3 (by simp)
        clear hc hli ht1 ht2 hnl hnl2 hdl
        go_upto_region 10 with (first
          | (go_at_call 20; refine C1.out.mono ?_; rintro e w3 ⟨rfl, ⟨U3, hX3, hfU⟩, hk3⟩)
          | fail)
        have kA3 : Keep [] w w3 := hpr.sX.keep hkw hk3
        have hW3 := hpr.mine.keep hk3 hpr.dj.symm
        have hD3 := hDk.keep hk3 hUT.symm
        have sU3 : Since w U3 := hpr.sX.fr hfU hkw.size
        have djU3S : Dj U3 S := hpr.dj.fr hfU hpr.mine.lt
        have djU3T : Dj U3 T := hUT.fr hfU hDk.lt
        have C2 := Lib.hid (write_any P S D T bad d c ai li ci w3 hW3 hD3 (hin.keep kA3 (by simp)) hST (hin.since hpr.sP) (hin.since hT) hwv (by omega) (by omega))
        clear e0 e1 e2 e3 C1
        have e0 := kA3.cell d0 (by simp)
        have e1 := kA3.cell d1 (by simp)
        have e2 := kA3.cell d2 (by simp)
        have e3 := kA3.cell d3 (by simp)
        go_upto_region 11 with (first
          | (go_at_call 21; refine C2.out.mono ?_; rintro e w4 ⟨rfl, S4, T4, hW4, hD4, hfS, hfT, hdj4, hk4⟩)
          | fail)
        have kA4 : Keep [] w w4 := kA3.trans hk4 (fun b hb => by
          rcases List.mem_append.1 hb with h | h
          · exact Or.inr (hpr.sP b h)
          · exact Or.inr (hT b h))
        have hX4 := hX3.keep hk4 (fun b hb h => by
          rcases List.mem_append.1 h with h | h
          · exact djU3S b hb h
          · exact djU3T b hb h)
        have djU4S : Dj U3 S4 := (djU3S.symm.fr hfS hX3.lt).symm
        have djU4T : Dj U3 T4 := (djU3T.symm.fr hfT hX3.lt).symm
        have hp4 : Pair w w4 P X S4 U3 (bad || cBad c) (putD (bad || cBad c) d (cBytes c)) := ⟨hW4, hX4, hpr.sP.fr hfS kA3.size, sU3, djU4S⟩
        have sT4 : Since w T4 := hT.fr hfT kA3.size
        have C3 := Lib.hid (wrote_any P X S4 U3 _ _ w4 hW4 hX4 (by omega))
        clear e0 e1 e2 e3 C2 hW3 hD3 hk3 hk4 hfU hfS hfT
        have e0 := kA4.cell d0 (by simp)
        by_cases h5 : c.k = 5
        · rw [h5] at e0
          go_wp2_with (first
            | (go_at_call 22; refine C3.out.mono ?_; rintro e w5 ⟨rfl, hk5⟩)
            | fail)
          refine ⟨⟨i + 1, T4, S4, U3, _, _, by omega, by go_num, hD4.keep hk5 (by simp), hp4.keep hk5 (by intro b _; simp) (by intro b _; simp), sT4, hdj4, djU4T, kA4.trans' hk5, HNL.out⟩, by simp [intOf]; omega⟩
        · have h5' : (c.k == 5) = false := by simpa using h5
          go_wp2_with fail
          refine ⟨⟨i + 1, T4, S4, U3, _, _, by omega, by go_num, hD4, hp4, sT4, hdj4, djU4T, kA4, HNL.out⟩, by simp [intOf]; omega⟩
      · have hbd : d.length ≤ 201000 := by
          have := total_le cs i; omega
        have C3 := Lib.hid (fun W (k : Keep [] wr W) => wrote_any P X S U bad d W (hpr.mine.keep k (by simp)) (hpr.ref.keep k (by simp)) (by omega))
        go_wp2_with fail
        refine (C3.out _ (Keep.refl _ _)).mono ?_
        rintro e w5 ⟨rfl, hk5⟩
        go_wp2_with fail
        refine (C3.out _ hk5).mono ?_
        rintro e w6 ⟨rfl, hk6⟩
        go_wp2_with (first
          | (go_at_call 18; refine (known_any _).mono ?_; rintro e w9 ⟨rfl, hk9⟩)
          | fail)
        go_returns
        exact ⟨rfl, ((hkw.trans' hk5).trans' hk6).trans' hk9⟩
end Go.Proofs.Ytkhplfgehcljmaa

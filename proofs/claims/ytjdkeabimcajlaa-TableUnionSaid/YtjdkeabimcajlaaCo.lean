/- Clone; sort.Search; place: where an action stands. -/
import Derived.Test.YtjdkeabimcajlaaPw
import Derived.WalkSpells
set_option linter.unusedVariables false
set_option linter.unusedSimpArgs false
namespace Go.Proofs.Ytjdkeabimcajlaa
open Go.RowKit

theorem info39 : (Try.prog.info? 39).map (fun i => (i.zero, i.size, i.bytes)) = some (some (.agg Try.zeroCells39), 65, 72) := by kernel_rfl
theorem zero39 : (Value.agg Try.zeroCells39).cells.size = 65 := rfl

set_option maxHeartbeats 2000000 in
set_option maxRecDepth 100000 in
theorem clone_any (a : Option Addr) (n c : Nat) (l : List Res) (w : World) (hx : RsIn w a n c l) :
    Calls Try.prog 45 #[.slice a n c] w fun e w' => ∃ a' c', e = .returned (.slice a' n c') ∧ Sl w' 39 65 (.slice a' n c') n (cellsOf l) ∧ Fr w [] (blks (.slice a' n c')) ∧ Keep [] w w' := by
  cases a with
  | none =>
    have hc := hx.hnil rfl
    have hn : n = 0 := by have := hx.hle; omega
    have hl : l = [] := List.eq_nil_of_length_eq_zero (by rw [hx.hlen, hn])
    have HL := Lib.hid hl
    clear hl
    subst hc
    subst hn
    have hq : ∀ W, (binOp .eql 22 (.slice none 0 0) (.slice none 0 0)).run Try.prog W = .ok (.bool true) W := fun W => by
      have := Lib.run_eql_slice_nil (P := Try.prog) W 22 39 none 0 0 0 0 Try.underlying22
      simpa using this
    go_enter Try.func45, Try.ntmps45
    go_wp2_with fail
    go_returns
    exact ⟨none, 0, rfl, by rw [HL.out]; exact Sl.nil _ _ _, by intro b hb; simp [blks, Value.ownBlock] at hb, Keep.refl _ _⟩
  | some ad =>
    have S0 : Sl (w.alloc (.cells #[] 39)) 39 65 (.slice (some ⟨w.heap.size, 0, none⟩) 0 0) 0 [] := Sl.made w 39 65 #[] 0 _ rfl rfl (by simp [maxLen])
    have k0 : Keep [] w (w.alloc (.cells #[] 39)) := (Keep.refl [] w).alloc _
    have f0 : Fr w [] (blks (.slice (some ⟨w.heap.size, 0, none⟩) 0 0)) := Fr.new (w' := w) (by intro b hb; simp [blks, Value.ownBlock] at hb; omega)
    obtain ⟨G, hG⟩ : ∃ G, w.heap.size = G := ⟨_, rfl⟩
    obtain ⟨w0, hw0⟩ : ∃ w0, w.alloc (.cells #[] 39) = w0 := ⟨_, rfl⟩
    rw [hG] at S0 f0
    rw [hw0] at S0 k0
    have hx0 := hx.keep k0 (by simp)
    have m1 := hx.short
    have hnl := Lib.hid (show (cellsOf l).length = n * 65 by rw [cellsOf_len, hx.hlen])
    have hq : ∀ W, (binOp .eql 22 (.slice (some ad) n c) (.slice none 0 0)).run Try.prog W = .ok (.bool false) W := fun W => by
      have := Lib.run_eql_slice_nil (P := Try.prog) W 22 39 (some ad) n c 0 0 Try.underlying22
      simpa using this
    go_enter Try.func45, Try.ntmps45
    go_wp2_with (first
      | (at_builtin; go_must (refine wpList_appendN rfl (.tmp 5) (.tmp 6) 22 rfl 39 (.agg Try.zeroCells39) 65 72 Try.underlying22 info39 zero39 (by omega) (.slice (some ⟨G, 0, none⟩) 0 0) 0 [] rfl S0 (some ad) n c (cellsOf l) rfl hnl.out hx0.hnil hx0.rd (cellsOf_all l) (by simp only [maxLen]; omega) (by omega) ?_; intro a1 c1 w6 hs1 hk1 hf1))
      | fail)
    go_returns
    rw [Nat.zero_add, List.nil_append] at hs1
    rw [Nat.zero_add] at hf1
    exact ⟨a1, c1, by simp, hs1, f0.trans hf1 k0.size, k0.trans hk1 (fun b hb => by rcases f0 b hb with h | h; cases h; exact Or.inr h)⟩

/-- sort.Search with a function that says yes from a place on. -/
def Finds (p : Nat → Bool) (n : Nat) (w : World) (e : Ending) (w' : World) : Prop := ∃ r : Nat, e = .returned (.int .i64 r) ∧ r ≤ n ∧ (∀ k, k < r → p k = false) ∧ (∀ k, r ≤ k → k < n → p k = true) ∧ Keep [] w w'
set_option maxHeartbeats 2000000 in
set_option maxRecDepth 100000 in
theorem search_any (f : FuncId) (caps : Array Value) (n : Nat) (p : Nat → Bool) (w : World) (hn : n ≤ 4611686018427387904) (hup : ∀ k m, k ≤ m → m < n → p k = true → p m = true)
    (hcall : ∀ (args : Array Value) (w : World), (callFunc f args).run Try.prog w = .ok (.enter f args) w)
    (hf : ∀ k W, k < n → Keep [] w W → Calls Try.prog f (#[Value.int .i64 (k : Nat)] ++ caps) W fun e w' => e = .returned (.bool (p k)) ∧ Keep [] W w') :
    Calls Try.prog 59 #[.int .i64 n, .func (.func f) #[] caps] w (Finds p n w) := by
  have HF := Lib.hid hf
  have HUP := Lib.hid hup
  clear hf hup
  go_enter Try.func59, Try.ntmps59
  go_wp2_with fail
  go_loopw [5, 6, 7] (fun v5 v6 v7 wr => ∃ i j : Nat, i ≤ j ∧ j ≤ n ∧ v5 = .int .i64 (i : Nat) ∧ v6 = .int .i64 (j : Nat) ∧ Hid (∀ k, k < i → p k = false) ∧ Hid (∀ k, j ≤ k → k < n → p k = true) ∧ Keep [] w wr) (fun v5 v6 _ _ => (intOf v6).toNat - (intOf v5).toNat)
  case atStart => exact ⟨0, n, by omega, by omega, rfl, rfl, Lib.hid (fun k hk => by omega), Lib.hid (fun k h1 h2 => by omega), Keep.refl _ _⟩
  case round =>
    obtain ⟨i, j, hij, hjn, rfl, rfl, HI, HJ, kk⟩ := hrel
    by_cases hlt : i < j
    · have i1 : (i : Int) < j := by omega
      obtain ⟨h, hh⟩ : ∃ h, (i + j) / 2 = h := ⟨_, rfl⟩
      have h1 : i ≤ h := by omega
      have h2 : h < j := by omega
      have s1 : IntKind.i64.wrap ((i : Int) + j) = i + j := IntWalk.i64_in _ (by omega)
      have s2 : ((i : Int) + j) / 2 = h := by omega
      have HH := Lib.hid hh
      obtain ⟨b, hb⟩ : ∃ b, p h = b := ⟨_, rfl⟩
      have HB := Lib.hid hb
      clear hb hh
      cases b with
      | true =>
        go_wp2_with fail
        refine (HF.out h wr (by omega) kk).mono ?_
        rintro e w1 ⟨rfl, k1⟩
        rw [HB.out]
        clear i1
        go_wp2_with fail
        refine ⟨⟨i, h, by omega, by omega, rfl, rfl, HI, Lib.hid (fun k h3 h4 => HUP.out h k h3 h4 HB.out), kk.trans k1 (by simp)⟩, by simp [intOf]; omega⟩
      | false =>
        go_wp2_with fail
        refine (HF.out h wr (by omega) kk).mono ?_
        rintro e w1 ⟨rfl, k1⟩
        rw [HB.out]
        clear i1
        go_wp2_with fail
        refine ⟨⟨h + 1, j, by omega, by omega, by go_num, rfl, Lib.hid (fun k h3 => ?_), HJ, kk.trans k1 (by simp)⟩, by simp [intOf]; omega⟩
        cases hk : p k with
        | false => rfl
        | true => exact absurd (HUP.out k h (by omega) (by omega) hk) (by rw [HB.out]; simp)
    · have hE : i = j := by omega
      have HE := Lib.hid hE
      clear hE
      go_wp2_with fail
      go_returns
      exact ⟨i, rfl, by omega, HI.out, fun k h1 h2 => HJ.out k (by have := HE.out; omega) h2, kk⟩
end Go.Proofs.Ytjdkeabimcajlaa

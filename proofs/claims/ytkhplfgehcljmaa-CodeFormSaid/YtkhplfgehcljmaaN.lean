/- The reference's reader: TakeFixed, TakeRaw. -/
import Derived.Test.YtkhplfgehcljmaaM
set_option linter.unusedVariables false
set_option linter.unusedSimpArgs false
namespace Go.Proofs.Ytkhplfgehcljmaa
open Go.RowKit

theorem takeFixed_bad (X : Nat) (a : Option Addr) (c : Nat) (d : List UInt8) (s : RS) (k : Int) (w : World) (h : RefAt w X a c d s) (hc : s.code ≠ 0) :
    Calls Try.prog 51 #[.pointer (some ⟨X, 0, none⟩), .int .i64 k] w fun e w' => e = .returned (.int .i64 0) ∧ w' = w := by
  have c2 : w.cell? ⟨X, 2, none⟩ = some (.int .i64 s.code) := h.blk.cell (i := 2) rfl
  have h1 : (s.code == 0) = false := by simpa using hc
  have h2 : (s.code != 0) = true := by simpa using hc
  go_enter Try.func51, Try.ntmps51
  go_wp2_with fail
  go_returns
  exact ⟨rfl, rfl⟩
theorem takeRaw_bad (X : Nat) (a : Option Addr) (c : Nat) (d : List UInt8) (s : RS) (k : Int) (w : World) (h : RefAt w X a c d s) (hc : s.code ≠ 0) :
    Calls Try.prog 40 #[.pointer (some ⟨X, 0, none⟩), .int .i64 k] w fun e w' => e = .returned (.slice none 0 0) ∧ w' = w := by
  have c2 : w.cell? ⟨X, 2, none⟩ = some (.int .i64 s.code) := h.blk.cell (i := 2) rfl
  have h1 : (s.code == 0) = false := by simpa using hc
  have h2 : (s.code != 0) = true := by simpa using hc
  go_enter Try.func40, Try.ntmps40
  go_wp2_with fail
  go_returns
  exact ⟨rfl, rfl⟩
theorem takeText_bad (X : Nat) (a : Option Addr) (c : Nat) (d : List UInt8) (s : RS) (k : Int) (w : World) (h : RefAt w X a c d s) (hc : s.code ≠ 0) :
    Calls Try.prog 41 #[.pointer (some ⟨X, 0, none⟩), .int .i64 k] w fun e w' => e = .returned (.slice none 0 0) ∧ w' = w := by
  have c2 : w.cell? ⟨X, 2, none⟩ = some (.int .i64 s.code) := h.blk.cell (i := 2) rfl
  have h1 : (s.code == 0) = false := by simpa using hc
  have h2 : (s.code != 0) = true := by simpa using hc
  go_enter Try.func41, Try.ntmps41
  go_wp2_with fail
  go_returns
  exact ⟨rfl, rfl⟩

set_option maxHeartbeats 2000000 in
theorem takeFixed_arg (X : Nat) (a : Option Addr) (c : Nat) (d : List UInt8) (s : RS) (k : Int) (w : World) (h : RefAt w X a c d s) (hc : s.code = 0) (hk : k < 1 ∨ 4 < k) :
    Calls Try.prog 51 #[.pointer (some ⟨X, 0, none⟩), .int .i64 k] w fun e w' => e = .returned (.int .i64 0) ∧ RefAt w' X a c d (s.spoil 1) ∧ Keep [X] w w' := by
  obtain ⟨A, L, o⟩ := h.opened
  have c2 : w.cell? ⟨X, 2, none⟩ = some (.int .i64 s.code) := o.blk.cell (i := 2) rfl
  rw [hc] at c2
  have HC := Lib.hid hc
  clear hc
  have ht : decide (k < 1) = true ∨ (decide (k < 1) = false ∧ decide (4 < k) = true) := by
    rcases hk with hk | hk
    · exact Or.inl (by simpa using hk)
    · by_cases h1 : k < 1
      · exact Or.inl (by simpa using h1)
      · exact Or.inr ⟨by simpa using h1, by simpa using hk⟩
  clear hk
  have hB := o.blk
  rcases ht with t1 | ⟨t1, t2⟩
  all_goals
    go_enter Try.func51, Try.ntmps51
    go_wp2_with (first
      | (go_at_call 59; refine (refSpoil_any X a L c A s.code s.place 1 _ hB).mono ?_; rintro e w3 ⟨rfl, hB1, hk1⟩)
      | fail)
    go_returns
    exact ⟨rfl, o.spoilt HC (Keep.refl _ _) hk1 hB1⟩
theorem takeRaw_arg (X : Nat) (a : Option Addr) (c : Nat) (d : List UInt8) (s : RS) (k : Int) (w : World) (h : RefAt w X a c d s) (hc : s.code = 0) (hk : k < 0) :
    Calls Try.prog 40 #[.pointer (some ⟨X, 0, none⟩), .int .i64 k] w fun e w' => e = .returned (.slice none 0 0) ∧ RefAt w' X a c d (s.spoil 1) ∧ Keep [X] w w' := by
  obtain ⟨A, L, o⟩ := h.opened
  have c2 : w.cell? ⟨X, 2, none⟩ = some (.int .i64 s.code) := o.blk.cell (i := 2) rfl
  rw [hc] at c2
  have HC := Lib.hid hc
  clear hc
  have hB := o.blk
  go_enter Try.func40, Try.ntmps40
  go_wp2_with (first
    | (go_at_call 59; refine (refSpoil_any X a L c A s.code s.place 1 _ hB).mono ?_; rintro e w3 ⟨rfl, hB1, hk1⟩)
    | fail)
  go_returns
  exact ⟨rfl, o.spoilt HC (Keep.refl _ _) hk1 hB1⟩
theorem takeText_arg (X : Nat) (a : Option Addr) (c : Nat) (d : List UInt8) (s : RS) (k : Int) (w : World) (h : RefAt w X a c d s) (hc : s.code = 0) (hk : k < 0) :
    Calls Try.prog 41 #[.pointer (some ⟨X, 0, none⟩), .int .i64 k] w fun e w' => e = .returned (.slice none 0 0) ∧ RefAt w' X a c d (s.spoil 1) ∧ Keep [X] w w' := by
  obtain ⟨A, L, o⟩ := h.opened
  have c2 : w.cell? ⟨X, 2, none⟩ = some (.int .i64 s.code) := o.blk.cell (i := 2) rfl
  rw [hc] at c2
  have HC := Lib.hid hc
  clear hc
  have hB := o.blk
  go_enter Try.func41, Try.ntmps41
  go_wp2_with (first
    | (go_at_call 59; refine (refSpoil_any X a L c A s.code s.place 1 _ hB).mono ?_; rintro e w3 ⟨rfl, hB1, hk1⟩)
    | fail)
  go_returns
  exact ⟨rfl, o.spoilt HC (Keep.refl _ _) hk1 hB1⟩

set_option maxHeartbeats 2000000 in
theorem takeFixed_short (X : Nat) (a : Option Addr) (c : Nat) (d : List UInt8) (s : RS) (k : Nat) (w : World) (h : RefAt w X a c d s) (hc : s.code = 0) (hk : 1 ≤ k ∧ k ≤ 4) (hs : d.length < s.at' + k) :
    Calls Try.prog 51 #[.pointer (some ⟨X, 0, none⟩), .int .i64 k] w fun e w' => e = .returned (.int .i64 0) ∧ RefAt w' X a c d (s.spoil 10) ∧ Keep [X] w w' := by
  obtain ⟨A, L, o⟩ := h.opened
  have c0 : w.cell? ⟨X, 0, none⟩ = some (.slice a L c) := o.blk.cell (i := 0) rfl
  have c1 : w.cell? ⟨X, 1, none⟩ = some (.int .i64 A) := o.blk.cell (i := 1) rfl
  have c2 : w.cell? ⟨X, 2, none⟩ = some (.int .i64 s.code) := o.blk.cell (i := 2) rfl
  rw [hc] at c2
  rw [o.hA.out, o.hL.out] at hs
  have HC := Lib.hid hc
  have t1 : decide ((k : Int) < 1) = false := by simp; omega
  have t2 : decide (4 < (k : Int)) = false := by simp; omega
  have g1 := o.h1
  have g2 := o.h2
  have e1 : IntKind.i64.wrap ((L : Int) - A) = L - A := IntWalk.i64_in _ (by omega)
  have t3 : decide ((L : Int) - A < k) = true := by simp; omega
  clear hc hs
  go_enter Try.func51, Try.ntmps51
  go_wp2_with fail
  go_quiet (fail)
  have hB : Blk (w.drewN nq) X #[.slice a L c, .int .i64 A, .int .i64 s.code, .int .i64 s.place] 53 := o.blk.drewN
  have hk2 : Keep [X] w (w.drewN nq) := (Keep.refl _ _).drewN
  generalize w.drewN nq = wc at hB hk2 ⊢
  clear c0 c1 c2
  go_wp2_with (first
    | (go_at_call 59; refine (refSpoil_any X a L c A s.code s.place 10 _ hB).mono ?_; rintro e w3 ⟨rfl, hB1, hk1⟩)
    | fail)
  go_returns
  exact ⟨rfl, o.spoilt HC hk2 hk1 hB1⟩

set_option maxHeartbeats 4000000 in
set_option maxRecDepth 100000 in
theorem takeFixed_some (X : Nat) (a : Option Addr) (c : Nat) (d : List UInt8) (s : RS) (k : Nat) (w : World) (h : RefAt w X a c d s) (hc : s.code = 0) (hk : 1 ≤ k ∧ k ≤ 4) (hs : s.at' + k ≤ d.length) :
    Calls Try.prog 51 #[.pointer (some ⟨X, 0, none⟩), .int .i64 k] w fun e w' => e = .returned (.int .i64 (beVal ((d.drop s.at').take k))) ∧ RefAt w' X a c d ⟨0, s.place, s.at' + k⟩ ∧ Keep [X] w w' := by
  obtain ⟨A, L, o⟩ := h.opened
  have c0 : w.cell? ⟨X, 0, none⟩ = some (.slice a L c) := o.blk.cell (i := 0) rfl
  have c1 : w.cell? ⟨X, 1, none⟩ = some (.int .i64 A) := o.blk.cell (i := 1) rfl
  have c2 : w.cell? ⟨X, 2, none⟩ = some (.int .i64 s.code) := o.blk.cell (i := 2) rfl
  rw [hc] at c2
  rw [o.hA.out, o.hL.out] at hs
  rw [o.hA.out]
  have HC := Lib.hid hc
  have t1 : decide ((k : Int) < 1) = false := by simp; omega
  have t2 : decide (4 < (k : Int)) = false := by simp; omega
  have g1 := o.h1
  have g2 := o.h2
  have e1 : IntKind.i64.wrap ((L : Int) - A) = L - A := IntWalk.i64_in _ (by omega)
  have t3 : decide ((L : Int) - A < k) = false := by simp; omega
  clear hc
  go_enter Try.func51, Try.ntmps51
  go_wp2_with fail
  go_quiet (fail)
  have hB : Blk (w.drewN nq) X #[.slice a L c, .int .i64 A, .int .i64 s.code, .int .i64 s.place] 53 := o.blk.drewN
  have hk2 : Keep [X] w (w.drewN nq) := (Keep.refl _ _).drewN
  generalize w.drewN nq = wc at hB hk2 ⊢
  clear c0 c1 c2 t1 t2 t3 e1
  go_wp2_with fail
  go_loopw [5, 6] (fun v5 v6 wr => ∃ i, i ≤ k ∧ v6 = .int .i64 (i : Nat) ∧ v5 = .int .i64 (beVal ((d.drop A).take i)) ∧ Blk wr X #[.slice a L c, .int .i64 A, .int .i64 s.code, .int .i64 s.place] 53 ∧ Keep [X] w wr) (fun _ v6 _ => k - (intOf v6).toNat)
  case atStart => exact ⟨0, by omega, rfl, rfl, hB, hk2⟩
  case round =>
    clear hB hk2
    obtain ⟨i, hi, rfl, rfl, hB, hkr⟩ := hrel
    by_cases hlt : i < k
    · have hL := o.hL.out
      obtain ⟨x, hx⟩ : ∃ x, d[A + i]? = some x := ⟨_, List.getElem?_eq_getElem (by omega)⟩
      obtain ⟨b, off, hab, hcell⟩ := (o.rd.out wr hkr).byte (k := A + i) (by omega)
      have hxx : d[A + i]'(by omega) = x := by
        rw [List.getElem?_eq_getElem (by omega)] at hx; exact Option.some.inj hx
      rw [hxx] at hcell
      rw [hab] at hB
      have hnext : beVal ((d.drop A).take (i + 1)) = beVal ((d.drop A).take i) * 256 + x.toNat := by
        rw [List.take_add_one, List.getElem?_drop, hx]; exact beVal_snoc _ _
      have hb := beVal_lt i ((d.drop A).take i) (by rw [List.length_take, List.length_drop]; omega)
      have hb3 : (256 : Nat) ^ i ≤ 256 ^ 3 := Nat.pow_le_pow_right (by omega) (by omega)
      obtain ⟨B, hBB⟩ : ∃ B, beVal ((d.drop A).take i) = B := ⟨_, rfl⟩
      rw [hBB] at hb hnext ⊢
      have hB24 : B < 16777216 := by omega
      have HX := Lib.hid hnext
      have HAB := Lib.hid hab
      have hx8 : x.toNat < 256 := x.toNat_lt
      have d0 : wr.cell? ⟨X, 0, none⟩ = some (.slice (some ⟨b, off, none⟩) L c) := hB.cell (i := 0) rfl
      have d1 : wr.cell? ⟨X, 1, none⟩ = some (.int .i64 A) := hB.cell (i := 1) rfl
      have q1 : IntKind.i64.wrap ((A : Int) + i) = A + i := IntWalk.i64_in _ (by omega)
      have q2 : ((A : Int) + i).toNat = A + i := by omega
      have q3 : (0 : Int) ≤ (A : Int) + i := by omega
      have q4 : (A : Int) + i < L := by omega
      have q5 : IntKind.i64.wrap (256 * (B : Int)) = 256 * B := IntWalk.i64_in _ (by omega)
      have q6 : IntKind.i64.wrap (256 * (B : Int) + (x.toNat : Int)) = 256 * B + x.toNat := IntWalk.i64_in _ (by omega)
      have q7 : IntKind.i64.wrap (x.toNat : Int) = x.toNat := IntWalk.i64_in _ (by omega)
      clear hx hxx hnext hBB hb hb3 hL hab
      go_wp2_with fail
      go_quiet (fail)
      have hBn : Blk (wr.drewN nq) X _ 53 := hB.drewN
      rw [← HAB.out] at hBn
      go_wp2_with fail
      refine ⟨⟨i + 1, by omega, by go_num, by rw [HX.out]; congr 1; push_cast; omega, hBn, hkr.drewN⟩, by simp [intOf]; omega⟩
    · obtain rfl : i = k := by omega
      have d1 : wr.cell? ⟨X, 1, none⟩ = some (.int .i64 A) := hB.cell (i := 1) rfl
      have f1 := hB.free (i := 1)
      go_wp2_with fail
      go_returns
      have hk3 : Keep [X] w (wr.setCell ⟨X, 1, none⟩ (.int .i64 ((A : Int) + i))) := hkr.set (Or.inl (by simp)) _
      refine ⟨rfl, o.back.out _ ⟨0, s.place, A + i⟩ hk3 ?_ hs, hk3⟩
      have := hB.set 1 (.int .i64 ((A : Int) + i))
      rw [HC.out] at this
      rw [show ((A + i : Nat) : Int) = (A : Int) + i by omega]; exact this

theorem takeFixed_any (X : Nat) (a : Option Addr) (c : Nat) (d : List UInt8) (s : RS) (k : Int) (w : World) (h : RefAt w X a c d s) :
    Calls Try.prog 51 #[.pointer (some ⟨X, 0, none⟩), .int .i64 k] w fun e w' => e = .returned (.int .i64 (rFixed d s k).1) ∧ RefAt w' X a c d (rFixed d s k).2 ∧ Keep [X] w w' := by
  by_cases hc : s.code = 0
  · by_cases h0 : k < 1 ∨ 4 < k
    · rw [rFixed, if_pos hc, if_pos h0]
      exact takeFixed_arg X a c d s k w h hc h0
    · obtain ⟨N, rfl⟩ : ∃ N : Nat, k = N := ⟨k.toNat, by omega⟩
      by_cases h2 : d.length < s.at' + N
      · rw [rFixed, if_pos hc, if_neg h0, if_pos (by simpa using h2)]
        exact takeFixed_short X a c d s N w h hc (by omega) h2
      · rw [rFixed, if_pos hc, if_neg h0, if_neg (by simpa using h2)]
        exact takeFixed_some X a c d s N w h hc (by omega) (by omega)
  · rw [rFixed, if_neg hc]
    refine (takeFixed_bad X a c d s k w h hc).mono ?_
    rintro e w' ⟨rfl, rfl⟩
    exact ⟨rfl, h, Keep.refl _ _⟩
end Go.Proofs.Ytkhplfgehcljmaa

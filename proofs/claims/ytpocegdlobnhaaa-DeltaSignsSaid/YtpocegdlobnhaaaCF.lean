/- A Reader's Number, Fixed, Raw, Text, Left, Err; Read. -/
import Derived.Test.YtpocegdlobnhaaaCE
set_option linter.unusedVariables false
set_option linter.unusedSimpArgs false
set_option maxRecDepth 100000
namespace Go.Proofs.Ytpocegdlobnhaaa.Cod
open Go.RowKit

/-- Number, by the document. -/
def rNumber (d : List UInt8) (s : RS) : Nat × RS :=
  if s.code = 0 then (if (numP (d.drop s.at')).2.2 = 0 then ((numP (d.drop s.at')).1, ⟨0, s.place, s.at' + (numP (d.drop s.at')).2.1⟩) else (0, s.spoil (numP (d.drop s.at')).2.2)) else (0, s)

/-- What the cells of a Reader say, for a walk: where it stands is A, how many bytes it has L. -/
structure Opened (w : World) (P : Nat) (d : List UInt8) (s : RS) (va : Option Addr) (vc A L : Nat) : Prop where
  hA : Hid (s.at' = A)
  hL : Hid (d.length = L)
  blk : Blk w P #[.int .i64 s.code, .int .i64 s.place, .slice va L vc, .int .i64 A] 174
  h1 : A ≤ L
  h2 : L ≤ 140737488355328
  h3 : L ≤ vc
  h4 : vc ≤ 9223372036854775807
  parts : (vc = A ∧ L = A) ∨ (vc ≠ A ∧ ∃ g off, va = some ⟨g, off, none⟩)
  hnil : va = none → vc = 0
  rd : Hid (∀ W', Keep [P] w W' → Rd W' va (bs d))
  back : Hid (∀ W' s', Keep [P] w W' → Blk W' P #[.int .i64 s'.code, .int .i64 s'.place, .slice va L vc, .int .i64 s'.at'] 174 → s'.at' ≤ L → RdCells W' P d s' va vc)
theorem RdCells.opened {w : World} {P : Nat} {d : List UInt8} {s : RS} {va : Option Addr} {vc : Nat} (h : RdCells w P d s va vc) : ∃ A L, Opened w P d s va vc A L := by
  refine ⟨s.at', d.length, Lib.hid rfl, Lib.hid rfl, h.blk, h.le, h.max, h.sl.use.2.2.2.1, ?_, ?_, h.sl.use.2.1, Lib.hid ?_, Lib.hid ?_⟩
  · have := h.sl.use.2.2.2.2; unfold maxLen at this; omega
  · have h3 := h.sl.use.2.2.2.1
    have h1 := h.le
    by_cases e : vc = s.at'
    · exact Or.inl ⟨e, by omega⟩
    · rcases h.sl.parts with ⟨_, e2⟩ | e2
      · omega
      · exact Or.inr ⟨e, e2⟩
  · exact fun W' k => h.sl.use.2.2.1.keep k (fun hne hx => h.out (by
      have := h.sl.ablk hne
      simp only [List.mem_singleton] at hx; rw [hx] at this; exact this))
  · exact fun W' s' k hB hl => h.turn k hB hl

/-- The number from where it stands. -/
theorem Opened.num {w : World} {P : Nat} {d : List UInt8} {s : RS} {va : Option Addr} {vc A L : Nat} (o : Opened w P d s va vc A L) {g off : Nat} (hv : va = some ⟨g, off, none⟩) (W : World) (k : Keep [P] w W) :
    Calls Try.prog 111 #[.slice (some ⟨g, off + A, none⟩) (L - A) (vc - A)] W fun e w' => e = .returned (.tuple #[.int .i64 (numP (d.drop A)).1, .int .i64 (numP (d.drop A)).2.1, .int .i64 (numP (d.drop A)).2.2]) ∧ w' = W := by
  have hr := o.rd.out W k
  rw [hv] at hr
  have hr2 := hr.part A (d.length - A)
  rw [List.take_of_length_le (by rw [List.length_drop]; exact Nat.le_refl _)] at hr2
  exact num_any _ _ _ _ W (by rw [List.length_drop, o.hL.out]) (by have := o.h2; omega) hr2
theorem Opened.num0 {w : World} {P : Nat} {d : List UInt8} {s : RS} {va : Option Addr} {vc A L : Nat} (o : Opened w P d s va vc A L) (hv : vc = A ∧ L = A) (W : World) :
    Calls Try.prog 111 #[.slice va 0 0] W fun e w' => e = .returned (.tuple #[.int .i64 (numP (d.drop A)).1, .int .i64 (numP (d.drop A)).2.1, .int .i64 (numP (d.drop A)).2.2]) ∧ w' = W := by
  have e : d.drop A = [] := List.drop_eq_nil_of_le (by rw [o.hL.out]; omega)
  rw [e]
  exact num_any _ _ _ _ W rfl (by omega) (Or.inl rfl)

theorem rnumber_bad (P : Nat) (S : List Nat) (d : List UInt8) (s : RS) (w : World) (h : RdAt w P S d s) (hc : s.code ≠ 0) :
    Calls Try.prog 87 #[.pointer (some ⟨P, 0, none⟩)] w fun e w' => e = .returned (.int .i64 0) ∧ w' = w := by
  have h1 : (s.code == 0) = false := by simpa using hc
  go_enter Try.func87, Try.ntmps87
  go_wp2_with (first | (go_at_call 108; refine (goes_any P S d s _ h).mono ?_; rintro e w1 ⟨rfl, rfl⟩) | fail)
  go_returns
  exact ⟨rfl, rfl⟩

set_option maxHeartbeats 2000000 in
set_option maxRecDepth 100000 in
theorem rnumber_ok (P : Nat) (d : List UInt8) (s : RS) (va : Option Addr) (vc : Nat) (w : World) (h : RdCells w P d s va vc) (hc : s.code = 0) :
    Calls Try.prog 87 #[.pointer (some ⟨P, 0, none⟩)] w fun e w' => e = .returned (.int .i64 (rNumber d s).1) ∧ RdCells w' P d (rNumber d s).2 va vc ∧ Keep [P] w w' := by
  obtain ⟨A, L, o⟩ := h.opened
  have h0 := goes_any P _ d s w ⟨va, vc, h, rfl⟩
  rw [hc] at h0
  have c2 : w.cell? ⟨P, 2, none⟩ = some (.slice va L vc) := o.blk.cell (i := 2) rfl
  have c3 : w.cell? ⟨P, 3, none⟩ = some (.int .i64 A) := o.blk.cell (i := 3) rfl
  obtain ⟨r, hr⟩ : ∃ r, numP (d.drop A) = r := ⟨_, rfl⟩
  have hok := numP_ok (d.drop A)
  rw [hr] at hok
  obtain ⟨v, n, c⟩ := r
  have hres : rNumber d s = if c = 0 then (v, ⟨0, s.place, A + n⟩) else (0, s.spoil c) := by
    rw [rNumber, if_pos hc, o.hA.out, hr]
  have hnl : c = 0 → v ≤ 2147483647 ∧ n ≤ 5 ∧ A + n ≤ L := fun h => by
    have := hok.ok h
    have h1 := o.h1
    rw [List.length_drop, o.hL.out] at this; simp only at this; omega
  have hno : c ≠ 0 → v = 0 ∧ n = 0 := fun h => by have := hok.no h; simp only at this; omega
  have hnum : ∀ g off, va = some ⟨g, off, none⟩ → ∀ W, Keep [P] w W → Calls Try.prog 111 #[.slice (some ⟨g, off + A, none⟩) (L - A) (vc - A)] W fun e w' => e = .returned (.tuple #[.int .i64 v, .int .i64 n, .int .i64 c]) ∧ w' = W := fun g off e W k => by
    have := o.num e W k; rw [hr] at this; exact this
  have hnum0 : vc = A ∧ L = A → ∀ W, Calls Try.prog 111 #[.slice va 0 0] W fun e w' => e = .returned (.tuple #[.int .i64 v, .int .i64 n, .int .i64 c]) ∧ w' = W := fun e W => by
    have := o.num0 e W; rw [hr] at this; exact this
  have HN := Lib.hid hnum
  have HN0 := Lib.hid hnum0
  have HR := Lib.hid hres
  have HC := Lib.hid hc
  have g1 := o.h1
  have g2 := o.h2
  have g3 := o.h3
  have g4 := o.h4
  have hp := o.parts
  clear hnum hnum0 hres hc hr hok
  go_enter Try.func87, Try.ntmps87
  go_upto_region 3 with (first | (go_at_call 108; refine h0.mono ?_; rintro e w1 ⟨rfl, hw⟩; have hw' := hw.symm; subst hw') | fail)
  go_cut [3, 4, 5] (fun v3 v4 v5 wc => v3 = .int .i64 v ∧ v4 = .int .i64 n ∧ v5 = .int .i64 c ∧ Blk wc P #[.int .i64 s.code, .int .i64 s.place, .slice va L vc, .int .i64 A] 174 ∧ Keep [P] w wc)
  case first =>
    rcases hp with hp | ⟨p1, g, off, rfl⟩
    · have hq := HN0.out hp
      have HQ := Lib.hid hq
      obtain ⟨p2, p3⟩ := hp
      subst p3
      clear hq
      go_quiet ((go_at_call 111; refine Calls.quiet_of_same (HQ.out _)))
      go_wp2_with fail
      go_meet
      case rel => exact ⟨rfl, rfl, rfl, o.blk.drewN, (Keep.refl _ _).drewN⟩
    · have hq := HN.out g off rfl
      have HQ := Lib.hid hq
      clear hq
      go_quiet ((go_at_call 111; refine Calls.quiet_of_same (HQ.out _ ((Keep.refl _ _).drewN))))
      go_wp2_with fail
      go_meet
      case rel => exact ⟨rfl, rfl, rfl, o.blk.drewN, (Keep.refl _ _).drewN⟩
  case rest =>
    obtain ⟨rfl, rfl, rfl, hB, hk⟩ := hcut
    clear c2 c3 h0 HN HN0 hp
    have cB3 : wc.cell? ⟨P, 3, none⟩ = some (.int .i64 A) := hB.cell (i := 3) rfl
    have fB3 := hB.free (i := 3)
    by_cases h0 : c = 0
    · subst h0
      obtain ⟨n1, n2, n3⟩ := hnl rfl
      have HR' := HR.out
      rw [if_pos rfl] at HR'
      have HQ := Lib.hid HR'
      clear hnl hno HR' HR
      go_wp2_with fail
      go_returns
      rw [HQ.out]
      have hk2 : Keep [P] w (wc.setCell ⟨P, 3, none⟩ (.int .i64 ((A : Int) + n))) := hk.set (Or.inl (by simp)) _
      refine ⟨rfl, o.back.out _ ⟨0, s.place, A + n⟩ hk2 ?_ n3, hk2⟩
      have := hB.set 3 (.int .i64 ((A : Int) + n))
      rw [HC.out] at this
      rw [show ((A + n : Nat) : Int) = (A : Int) + n by omega]; exact this
    · obtain ⟨rfl, rfl⟩ := hno h0
      have h0' : (c == 0) = false := by simpa using h0
      have h0'' : (c != 0) = true := by simpa using h0
      have HR' := HR.out
      rw [if_neg h0] at HR'
      have HQ := Lib.hid HR'
      clear hnl hno HR' HR
      go_upto_region 5 with fail
      go_still_tail 8, (by kernel_rfl)
      change wpList _ _ _ _ _ wc.drew
      have hBe : Blk wc.drew P _ 174 := hB.drew
      have ke : Keep [P] w wc.drew := hk.drew
      generalize wc.drew = w2 at hBe ke ⊢
      clear cB3 fB3 hB hk
      go_wp2_with (first
        | (go_at_call 109; refine (spoil_any P s.code s.place c A [.slice va L vc, .int .i64 A] 174 _ hBe).mono ?_; rintro e w3 ⟨rfl, hB1, hk1, hs1⟩
           have cB3 : w3.cell? ⟨P, 3, none⟩ = some (.int .i64 A) := hB1.cell (i := 3) rfl
           have fB3 := hB1.free (i := 3))
        | fail)
      go_returns
      rw [HQ.out]
      have hk3 : Keep [P] w w3 := ke.trans hk1 (by simp)
      have hk4 : Keep [P] w (w3.setCell ⟨P, 3, none⟩ (.int .i64 A)) := hk3.set (Or.inl (by simp)) _
      refine ⟨rfl, o.back.out _ (s.spoil c) hk4 ?_ (by rw [RS.spoil_ok HC.out]; simp only; rw [o.hA.out]; exact g1), hk4⟩
      have := hB1.set 3 (.int .i64 A)
      rw [HC.out] at this
      rw [RS.spoil_ok HC.out, o.hA.out]
      exact this
theorem rnumber_any (P : Nat) (S : List Nat) (d : List UInt8) (s : RS) (w : World) (h : RdAt w P S d s) :
    Calls Try.prog 87 #[.pointer (some ⟨P, 0, none⟩)] w fun e w' => e = .returned (.int .i64 (rNumber d s).1) ∧ RdAt w' P S d (rNumber d s).2 ∧ Keep [P] w w' := by
  by_cases hc : s.code = 0
  · obtain ⟨va, vc, h1, rfl⟩ := h
    refine (rnumber_ok P d s va vc w h1 hc).mono ?_
    rintro e w' ⟨e1, e2, e3⟩
    exact ⟨e1, ⟨va, vc, e2, rfl⟩, e3⟩
  · refine (rnumber_bad P S d s w h hc).mono ?_
    rintro e w' ⟨e1, rfl⟩
    rw [rNumber, if_neg hc]
    exact ⟨e1, h, Keep.refl _ _⟩
end Go.Proofs.Ytpocegdlobnhaaa.Cod

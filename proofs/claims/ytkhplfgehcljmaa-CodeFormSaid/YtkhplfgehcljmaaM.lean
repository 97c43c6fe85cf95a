/- The reference's reader. -/
import Derived.Test.YtkhplfgehcljmaaL
set_option linter.unusedVariables false
set_option linter.unusedSimpArgs false
namespace Go.Proofs.Ytkhplfgehcljmaa
open Go.RowKit

theorem InBytes.keep {w w' : World} {a : Option Addr} {l c : Nat} {xs : List UInt8} {S : List Nat} (h : InBytes w a l c xs) (k : Keep S w w') (hS : xs ≠ [] → ablk a ∉ S) : InBytes w' a l c xs :=
  ⟨h.hlen, h.rd.keep k (fun e => hS (by intro e'; subst e'; exact e rfl)), h.hle, h.hnil, h.reach⟩
theorem InBytes.blk {w : World} {a : Option Addr} {l c : Nat} {xs : List UInt8} (h : InBytes w a l c xs) (hx : xs ≠ []) : ablk a < w.heap.size := by
  have : 0 < (bs xs).length := by rw [bs_length]; exact List.length_pos_iff.2 hx
  exact h.rd.lt this

/-- Block X is the document's reader of d, whose bytes lie at a. -/
structure RefAt (w : World) (X : Nat) (a : Option Addr) (c : Nat) (d : List UInt8) (s : RS) : Prop where
  blk : Blk w X #[.slice a d.length c, .int .i64 s.at', .int .i64 s.code, .int .i64 s.place] 53
  inb : InBytes w a d.length c d
  le : s.at' ≤ d.length
  out : d ≠ [] → ablk a ≠ X
theorem RefAt.keep {w w' : World} {X : Nat} {T : List Nat} {a : Option Addr} {c : Nat} {d : List UInt8} {s : RS} (h : RefAt w X a c d s) (k : Keep T w w') (hX : X ∉ T) (hT : d ≠ [] → ablk a ∉ T) : RefAt w' X a c d s :=
  ⟨h.blk.keep k hX, h.inb.keep k hT, h.le, h.out⟩
theorem RefAt.turn {w w' : World} {X : Nat} {a : Option Addr} {c : Nat} {d : List UInt8} {s s' : RS} (h : RefAt w X a c d s) (k : Keep [X] w w') (hB : Blk w' X #[.slice a d.length c, .int .i64 s'.at', .int .i64 s'.code, .int .i64 s'.place] 53) (hl : s'.at' ≤ d.length) : RefAt w' X a c d s' :=
  ⟨hB, h.inb.keep k (fun hd => by simp only [List.mem_singleton]; exact h.out hd), hl, h.out⟩

structure RefOpened (w : World) (X : Nat) (a : Option Addr) (c : Nat) (d : List UInt8) (s : RS) (A L : Nat) : Prop where
  hA : Hid (s.at' = A)
  hL : Hid (d.length = L)
  blk : Blk w X #[.slice a L c, .int .i64 A, .int .i64 s.code, .int .i64 s.place] 53
  h1 : A ≤ L
  h2 : L ≤ 140737488351232
  h3 : L ≤ c
  h4 : c ≤ 9223372036854775807
  hnil : a = none → c = 0
  rd : Hid (∀ W', Keep [X] w W' → Rd W' a (bs d))
  back : Hid (∀ W' s', Keep [X] w W' → Blk W' X #[.slice a L c, .int .i64 s'.at', .int .i64 s'.code, .int .i64 s'.place] 53 → s'.at' ≤ L → RefAt W' X a c d s')
theorem RefAt.opened {w : World} {X : Nat} {a : Option Addr} {c : Nat} {d : List UInt8} {s : RS} (h : RefAt w X a c d s) : ∃ A L, RefOpened w X a c d s A L :=
  ⟨s.at', d.length, Lib.hid rfl, Lib.hid rfl, h.blk, h.le, by have := h.inb.reach; have := h.inb.hle; omega, h.inb.hle, by have := h.inb.reach; omega, h.inb.hnil,
    Lib.hid (fun W' k => (h.inb.keep k (fun hd => by simp only [List.mem_singleton]; exact h.out hd)).rd), Lib.hid (fun W' s' k hB hl => h.turn k hB hl)⟩

theorem refSpoil_any (X : Nat) (a : Option Addr) (L c A : Nat) (code place e : Int) (w : World) (hB : Blk w X #[.slice a L c, .int .i64 A, .int .i64 code, .int .i64 place] 53) :
    Calls Try.prog 59 #[.pointer (some ⟨X, 0, none⟩), .int .i64 e] w fun r w' => r = .returned (.tuple #[]) ∧ Blk w' X #[.slice a L c, .int .i64 A, .int .i64 e, .int .i64 A] 53 ∧ Keep [X] w w' := by
  have c1 : w.cell? ⟨X, 1, none⟩ = some (.int .i64 A) := hB.cell (i := 1) rfl
  have c2 : w.cell? ⟨X, 2, none⟩ = some (.int .i64 code) := hB.cell (i := 2) rfl
  have c3 : w.cell? ⟨X, 3, none⟩ = some (.int .i64 place) := hB.cell (i := 3) rfl
  have f2 := hB.free (i := 2)
  have f3 := hB.free (i := 3)
  go_enter Try.func59, Try.ntmps59
  go_wp2_with fail
  go_returns
  exact ⟨rfl, (hB.set 2 (.int .i64 e)).set 3 (.int .i64 A), ((Keep.refl [X] w).set (Or.inl (by simp)) _).set (Or.inl (by simp)) _⟩

/-- The world behind 'spoil(r, c)'. -/
theorem RefOpened.spoilt {w w2 w3 : World} {X : Nat} {a : Option Addr} {c : Nat} {d : List UInt8} {s : RS} {A L : Nat} {e : Int} (o : RefOpened w X a c d s A L) (hc : Hid (s.code = 0)) (k2 : Keep [X] w w2) (k3 : Keep [X] w2 w3)
    (hB : Blk w3 X #[.slice a L c, .int .i64 A, .int .i64 e, .int .i64 A] 53) : RefAt w3 X a c d (s.spoil e) ∧ Keep [X] w w3 := by
  have k : Keep [X] w w3 := k2.trans k3 (by simp)
  refine ⟨o.back.out _ (s.spoil e) k ?_ (by rw [RS.spoil_ok hc.out]; simp only; rw [o.hA.out]; exact o.h1), k⟩
  rw [RS.spoil_ok hc.out, o.hA.out]
  exact hB

theorem takeNumber_bad (X : Nat) (a : Option Addr) (c : Nat) (d : List UInt8) (s : RS) (w : World) (h : RefAt w X a c d s) (hc : s.code ≠ 0) :
    Calls Try.prog 50 #[.pointer (some ⟨X, 0, none⟩)] w fun e w' => e = .returned (.int .i64 0) ∧ w' = w := by
  have c2 : w.cell? ⟨X, 2, none⟩ = some (.int .i64 s.code) := h.blk.cell (i := 2) rfl
  have h1 : (s.code == 0) = false := by simpa using hc
  have h2 : (s.code != 0) = true := by simpa using hc
  go_enter Try.func50, Try.ntmps50
  go_wp2_with fail
  go_returns
  exact ⟨rfl, rfl⟩

set_option maxHeartbeats 2000000 in
set_option maxRecDepth 100000 in
theorem takeNumber_ok (X : Nat) (a : Option Addr) (cap : Nat) (d : List UInt8) (s : RS) (w : World) (h : RefAt w X a cap d s) (hc : s.code = 0) :
    Calls Try.prog 50 #[.pointer (some ⟨X, 0, none⟩)] w fun e w' => e = .returned (.int .i64 (rNumber d s).1) ∧ RefAt w' X a cap d (rNumber d s).2 ∧ Keep [X] w w' := by
  obtain ⟨A, L, o⟩ := h.opened
  have c0 : w.cell? ⟨X, 0, none⟩ = some (.slice a L cap) := o.blk.cell (i := 0) rfl
  have c1 : w.cell? ⟨X, 1, none⟩ = some (.int .i64 A) := o.blk.cell (i := 1) rfl
  have c2 : w.cell? ⟨X, 2, none⟩ = some (.int .i64 s.code) := o.blk.cell (i := 2) rfl
  rw [hc] at c2
  obtain ⟨r, hr⟩ : ∃ r, numP (d.drop A) = r := ⟨_, rfl⟩
  have hok := numP_ok (d.drop A)
  rw [hr] at hok
  obtain ⟨v, n, c⟩ := r
  have hres : rNumber d s = if c = 0 then (v, ⟨0, s.place, A + n⟩) else (0, s.spoil c) := by
    rw [rNumber, if_pos hc, o.hA.out, hr]
  have hnl : c = 0 → v ≤ 2147483647 ∧ n ≤ 5 ∧ A + n ≤ L := fun h => by
    have := hok.ok h
    have h1 := o.h1
    rw [List.length_drop, o.hL.out] at this; simp only at this; omega
  have hno : c ≠ 0 → v = 0 ∧ n = 0 := fun h => by have := hok.no h; simp only at this; omega
  have hnum : ∀ W, Keep [X] w W → Calls Try.prog 60 #[.slice a L cap, .int .i64 A] W fun e w' => e = .returned (.tuple #[.int .i64 v, .int .i64 n, .int .i64 c]) ∧ w' = W := fun W k => by
    have := refNum_any a L cap A d W o.hL.out (by have := o.h2; omega) o.h1 (o.rd.out W k); rw [hr] at this; exact this
  have HN := Lib.hid hnum
  have HR := Lib.hid hres
  have HC := Lib.hid hc
  have g1 := o.h1
  have g2 := o.h2
  clear hnum hres hc hr hok
  go_enter Try.func50, Try.ntmps50
  go_wp2_with fail
  go_quiet ((go_at_call 60; refine Calls.quiet_of_same (HN.out _ ((Keep.refl _ _).drewN))))
  have hB : Blk (w.drewN nq) X #[.slice a L cap, .int .i64 A, .int .i64 s.code, .int .i64 s.place] 53 := o.blk.drewN
  have hk : Keep [X] w (w.drewN nq) := (Keep.refl _ _).drewN
  generalize w.drewN nq = wc at hB hk ⊢
  clear c0 c1 c2
  have cB1 : wc.cell? ⟨X, 1, none⟩ = some (.int .i64 A) := hB.cell (i := 1) rfl
  have fB1 := hB.free (i := 1)
  by_cases h0 : c = 0
  · subst h0
    obtain ⟨n1, n2, n3⟩ := hnl rfl
    have HR' := HR.out
    rw [if_pos rfl] at HR'
    have HQ := Lib.hid HR'
    clear hnl hno HR' HR
    go_wp2_with fail
    go_returns
    rw [HQ.out]
    have hk2 : Keep [X] w (wc.setCell ⟨X, 1, none⟩ (.int .i64 ((A : Int) + n))) := hk.set (Or.inl (by simp)) _
    refine ⟨rfl, o.back.out _ ⟨0, s.place, A + n⟩ hk2 ?_ n3, hk2⟩
    have := hB.set 1 (.int .i64 ((A : Int) + n))
    rw [HC.out] at this
    rw [show ((A + n : Nat) : Int) = (A : Int) + n by omega]; exact this
  · obtain ⟨rfl, rfl⟩ := hno h0
    have h0' : (c == 0) = false := by simpa using h0
    have h0'' : (c != 0) = true := by simpa using h0
    have HR' := HR.out
    rw [if_neg h0] at HR'
    have HQ := Lib.hid HR'
    clear hnl hno HR' HR
    go_wp2_with (first
      | (go_at_call 59; refine (refSpoil_any X a L cap A s.code s.place c _ hB).mono ?_; rintro e w3 ⟨rfl, hB1, hk1⟩)
      | fail)
    go_returns
    rw [HQ.out]
    exact ⟨rfl, o.spoilt HC hk hk1 hB1⟩
theorem takeNumber_any (X : Nat) (a : Option Addr) (c : Nat) (d : List UInt8) (s : RS) (w : World) (h : RefAt w X a c d s) :
    Calls Try.prog 50 #[.pointer (some ⟨X, 0, none⟩)] w fun e w' => e = .returned (.int .i64 (rNumber d s).1) ∧ RefAt w' X a c d (rNumber d s).2 ∧ Keep [X] w w' := by
  by_cases hc : s.code = 0
  · exact takeNumber_ok X a c d s w h hc
  · refine (takeNumber_bad X a c d s w h hc).mono ?_
    rintro e w' ⟨e1, rfl⟩
    rw [rNumber, if_neg hc]
    exact ⟨e1, h, Keep.refl _ _⟩

theorem refLeft_any (X : Nat) (a : Option Addr) (c : Nat) (d : List UInt8) (s : RS) (w : World) (h : RefAt w X a c d s) :
    Calls Try.prog 52 #[.pointer (some ⟨X, 0, none⟩)] w fun e w' => e = .returned (.int .i64 (rLeft d s)) ∧ ∃ m, w' = w.drewN m := by
  by_cases hc : s.code = 0
  · obtain ⟨A, L, o⟩ := h.opened
    have hr : rLeft d s = L - A := by rw [rLeft, if_pos hc, o.hA.out, o.hL.out]
    have c0 : w.cell? ⟨X, 0, none⟩ = some (.slice a L c) := o.blk.cell (i := 0) rfl
    have c1 : w.cell? ⟨X, 1, none⟩ = some (.int .i64 A) := o.blk.cell (i := 1) rfl
    have c2 : w.cell? ⟨X, 2, none⟩ = some (.int .i64 s.code) := o.blk.cell (i := 2) rfl
    rw [hc] at c2
    have g1 := o.h1
    have g2 := o.h2
    have e1 : IntKind.i64.wrap ((L : Int) - A) = L - A := IntWalk.i64_in _ (by omega)
    have e2 : ((L - A : Nat) : Int) = (L : Int) - A := by omega
    have HR := Lib.hid hr
    have HE := Lib.hid e2
    clear hr hc e2
    go_enter Try.func52, Try.ntmps52
    go_wp2_with fail
    go_quiet (fail)
    go_wp2_with fail
    go_returns
    exact ⟨by rw [HR.out, HE.out]; rfl, nq, rfl⟩
  · have h1 : (s.code == 0) = false := by simpa using hc
    have h2 : (s.code != 0) = true := by simpa using hc
    have c2 : w.cell? ⟨X, 2, none⟩ = some (.int .i64 s.code) := h.blk.cell (i := 2) rfl
    rw [rLeft, if_neg hc]
    go_enter Try.func52, Try.ntmps52
    go_wp2_with fail
    go_returns
    exact ⟨rfl, 0, rfl⟩
end Go.Proofs.Ytkhplfgehcljmaa

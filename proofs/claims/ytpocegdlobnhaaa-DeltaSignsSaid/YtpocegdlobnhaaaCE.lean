/- A Reader: what it reads, as a relation on its cells. -/
import Derived.Test.YtpocegdlobnhaaaCD
set_option linter.unusedVariables false
set_option linter.unusedSimpArgs false
set_option maxRecDepth 100000
namespace Go.Proofs.Ytpocegdlobnhaaa.Cod
open Go.RowKit

/-- Where a reader stands: its first error, its place, how far it is. -/
structure RS where
  code : Int
  place : Int
  at' : Nat
/-- Block P is a Reader of d; S: the blocks that it has. -/
structure RdCells (w : World) (P : Nat) (d : List UInt8) (s : RS) (va : Option Addr) (vc : Nat) : Prop where
  blk : Blk w P #[.int .i64 s.code, .int .i64 s.place, .slice va d.length vc, .int .i64 s.at'] 174
  sl : Sl w 5 1 (.slice va d.length vc) d.length (bs d)
  le : s.at' ≤ d.length
  max : d.length ≤ 140737488355328
  out : P ∉ blks (.slice va d.length vc)
def RdAt (w : World) (P : Nat) (S : List Nat) (d : List UInt8) (s : RS) : Prop := ∃ va vc, RdCells w P d s va vc ∧ S = P :: blks (.slice va d.length vc)
theorem RdCells.keep {w w' : World} {P : Nat} {T : List Nat} {d : List UInt8} {s : RS} {va : Option Addr} {vc : Nat} (h : RdCells w P d s va vc) (k : Keep T w w') (hT : ∀ b ∈ P :: blks (.slice va d.length vc), b ∉ T) : RdCells w' P d s va vc :=
  ⟨h.blk.keep k (hT P (by simp)), h.sl.keep k (fun b hb => hT b (by simp [hb])), h.le, h.max, h.out⟩
theorem RdAt.keep {w w' : World} {P : Nat} {S T : List Nat} {d : List UInt8} {s : RS} (h : RdAt w P S d s) (k : Keep T w w') (hT : ∀ b ∈ S, b ∉ T) : RdAt w' P S d s := by
  obtain ⟨va, vc, h1, rfl⟩ := h
  exact ⟨va, vc, h1.keep k hT, rfl⟩
theorem RdAt.lt {w : World} {P : Nat} {S : List Nat} {d : List UInt8} {s : RS} (h : RdAt w P S d s) : ∀ b ∈ S, b < w.heap.size := by
  obtain ⟨va, vc, h1, rfl⟩ := h
  intro b hb
  rcases List.mem_cons.1 hb with rfl | hb
  · exact h1.blk.lt
  · exact h1.sl.lt b hb
theorem RdAt.self {w : World} {P : Nat} {S : List Nat} {d : List UInt8} {s : RS} (h : RdAt w P S d s) : P ∈ S := by
  obtain ⟨va, vc, h1, rfl⟩ := h; simp

/-- A store of new fate and place in the Reader's own block. -/
theorem RdCells.turn {w w' : World} {P : Nat} {d : List UInt8} {s s' : RS} {va : Option Addr} {vc : Nat} (h : RdCells w P d s va vc) (k : Keep [P] w w') (hB : Blk w' P #[.int .i64 s'.code, .int .i64 s'.place, .slice va d.length vc, .int .i64 s'.at'] 174) (hl : s'.at' ≤ d.length) : RdCells w' P d s' va vc :=
  ⟨hB, h.sl.keep k (fun b hb => by simp only [List.mem_singleton]; rintro rfl; exact h.out hb), hl, h.max, h.out⟩
/-- The first error. -/
def RS.spoil (s : RS) (c : Int) : RS := if s.code = 0 then ⟨c, s.at', s.at'⟩ else s
theorem RS.spoil_ok {s : RS} (h : s.code = 0) (c : Int) : s.spoil c = ⟨c, s.at', s.at'⟩ := by rw [RS.spoil, if_pos h]

theorem goes_any (P : Nat) (S : List Nat) (d : List UInt8) (s : RS) (w : World) (h : RdAt w P S d s) :
    Calls Try.prog 108 #[.pointer (some ⟨P, 0, none⟩)] w fun e w' => e = .returned (.bool (s.code == 0)) ∧ w' = w := by
  obtain ⟨va, vc, h1, rfl⟩ := h
  have c0 : w.cell? ⟨P, 0, none⟩ = some (.int .i64 s.code) := h1.blk.cell (i := 0) rfl
  go_enter Try.func108, Try.ntmps108
  go_wp2_with (first | (go_at_call 115; refine (spoilt_any P _ _ c0).mono ?_; rintro e w1 ⟨rfl, rfl⟩) | fail)
  go_returns
  exact ⟨by simp, rfl⟩
theorem goes_nil (w : World) : Calls Try.prog 108 #[.pointer none] w fun e w' => e = .returned (.bool false) ∧ w' = w := by
  go_enter Try.func108, Try.ntmps108
  go_wp2_with fail
  go_returns
  exact ⟨rfl, rfl⟩

/-- take: n bytes from where it stands. -/
theorem take_some (P : Nat) (d : List UInt8) (s : RS) (va : Option Addr) (vc n : Nat) (w : World) (h : RdCells w P d s va vc) (hn : s.at' + n ≤ d.length) :
    Calls Try.prog 110 #[.pointer (some ⟨P, 0, none⟩), .int .i64 n] w fun e w' => ∃ a c, e = .returned (.slice a n c) ∧ (a = none → c = 0) ∧ Rd w' a (bs ((d.drop s.at').take n)) ∧ RdCells w' P d ⟨s.code, s.place, s.at' + n⟩ va vc ∧ Keep [P] w w' := by
  obtain ⟨A, hA⟩ : ∃ A, s.at' = A := ⟨_, rfl⟩
  obtain ⟨L, hL⟩ : ∃ L, d.length = L := ⟨_, rfl⟩
  have h1 : A + n ≤ L := by omega
  have h2 : L ≤ 140737488355328 := by have := h.max; omega
  have h3 : L ≤ vc := by have := h.sl.use.2.2.2.1; omega
  have hm : vc ≤ maxLen := h.sl.use.2.2.2.2
  unfold maxLen at hm
  have hBn : ∀ W', Blk W' P #[.int .i64 s.code, .int .i64 s.place, .slice va L vc, .int .i64 ((A + n : Nat) : Int)] 174 → Keep [P] w W' → RdCells W' P d ⟨s.code, s.place, A + n⟩ va vc := fun W' hB k =>
    h.turn k (s' := ⟨s.code, s.place, A + n⟩) (by rw [hL]; exact hB) (by show A + n ≤ d.length; omega)
  have hB : Blk w P #[.int .i64 s.code, .int .i64 s.place, .slice va L vc, .int .i64 A] 174 := by have := h.blk; rw [hA, hL] at this; exact this
  have hval : (vc = A ∧ n = 0) ∨ (vc ≠ A ∧ ∃ g off, va = some ⟨g, off, none⟩) := by
    by_cases e : vc = A
    · exact Or.inl ⟨e, by omega⟩
    · rcases h.sl.parts with ⟨_, e2⟩ | e2
      · omega
      · exact Or.inr ⟨e, e2⟩
  have hrd := h.sl.use.2.2.1
  have hnil := h.sl.use.2.1
  have hPd : ∀ W', Keep [P] w W' → Rd W' va (bs d) := fun W' k => hrd.keep k (fun hne hx => h.out (by
    have := h.sl.ablk hne
    simp only [List.mem_singleton] at hx; rw [hx] at this; exact this))
  have HPD := Lib.hid hPd
  have HBN := Lib.hid hBn
  rw [hA]
  clear hPd hBn h hA hL hrd
  go_enter Try.func110, Try.ntmps110
  have c2 : w.cell? ⟨P, 2, none⟩ = some (.slice va L vc) := hB.cell (i := 2) rfl
  have c3 : w.cell? ⟨P, 3, none⟩ = some (.int .i64 A) := hB.cell (i := 3) rfl
  go_wp2_with fail
  go_quiet (fail)
  have hBd : Blk (w.drewN nq) P #[.int .i64 s.code, .int .i64 s.place, .slice va L vc, .int .i64 A] 174 := hB.drewN
  have kd : Keep [P] w (w.drewN nq) := (Keep.refl _ _).drewN
  generalize w.drewN nq = w1 at hBd kd ⊢
  clear c2 c3 hB
  have c2 : w1.cell? ⟨P, 2, none⟩ = some (.slice va L vc) := hBd.cell (i := 2) rfl
  have c3 : w1.cell? ⟨P, 3, none⟩ = some (.int .i64 A) := hBd.cell (i := 3) rfl
  have f3 := hBd.free (i := 3)
  go_upto_region 5 with fail
  have hB2 := hBd.set 3 (.int .i64 ((A : Int) + n))
  have k2 : Keep [P] w (w1.setCell ⟨P, 3, none⟩ (.int .i64 ((A : Int) + n))) := kd.set (Or.inl (by simp)) _
  generalize w1.setCell ⟨P, 3, none⟩ (.int .i64 ((A : Int) + n)) = w2 at hB2 k2 ⊢
  clear c2 c3 f3 hBd kd
  have hB2 : Blk w2 P #[.int .i64 s.code, .int .i64 s.place, .slice va L vc, .int .i64 ((A : Int) + n)] 174 := hB2
  have c2 : w2.cell? ⟨P, 2, none⟩ = some (.slice va L vc) := hB2.cell (i := 2) rfl
  have c3 : w2.cell? ⟨P, 3, none⟩ = some (.int .i64 ((A : Int) + n)) := hB2.cell (i := 3) rfl
  have e1 : IntKind.i64.wrap ((A : Int) + n - n) = A := by rw [IntWalk.i64_in _ (by omega)]; omega
  have e2 : IntKind.i64.wrap ((A : Int) + n) = A + n := IntWalk.i64_in _ (by omega)
  have e3 : ((A : Int) + n).toNat = A + n := by omega
  have e4 : (0 : Int) ≤ (A : Int) + n := by omega
  have e5 : (A : Int) ≤ (A : Int) + n := by omega
  have e6 : (A : Int) + n ≤ vc := by omega
  rcases hval with ⟨g1, g2⟩ | ⟨g1, g, off, rfl⟩
  · go_quiet (fail)
    go_wp2_with fail
    go_returns
    have k3 : Keep [P] w (w2.drewN nq) := k2.drewN
    refine ⟨va, 0, by subst g2; rfl, fun _ => rfl, by subst g2; exact Or.inl (by simp), HBN.out _ ?_ k3, k3⟩
    have := hB2.drewN (n := nq)
    rwa [show ((A : Int) + n) = ((A + n : Nat) : Int) by omega] at this
  · go_quiet (fail)
    go_wp2_with fail
    go_returns
    have k3 : Keep [P] w (w2.drewN nq) := k2.drewN
    refine ⟨_, _, rfl, fun h => (by cases h), (HPD.out _ k3).part A n, HBN.out _ ?_ k3, k3⟩
    have := hB2.drewN (n := nq)
    rwa [show ((A : Int) + n) = ((A + n : Nat) : Int) by omega] at this

theorem take_short (P : Nat) (d : List UInt8) (s : RS) (va : Option Addr) (vc : Nat) (n : Int) (w : World) (h : RdCells w P d s va vc) (hn : (d.length : Int) < s.at' + n) (hn1 : n ≤ 9223372036854775807) :
    Calls Try.prog 110 #[.pointer (some ⟨P, 0, none⟩), .int .i64 n] w fun e w' => e = .returned (.slice none 0 0) ∧ RdCells w' P d (s.spoil 10) va vc ∧ Keep [P] w w' := by
  have c2 : w.cell? ⟨P, 2, none⟩ = some (.slice va d.length vc) := h.blk.cell (i := 2) rfl
  have c3 : w.cell? ⟨P, 3, none⟩ = some (.int .i64 s.at') := h.blk.cell (i := 3) rfl
  obtain ⟨A, hA⟩ : ∃ A, s.at' = A := ⟨_, rfl⟩
  obtain ⟨L, hL⟩ : ∃ L, d.length = L := ⟨_, rfl⟩
  have hle := h.le
  have hmx := h.max
  rw [hA] at c3 hle hn
  rw [hL] at c2 hle hn hmx
  have HB := Lib.hid h.blk
  have hT := fun w' (k : Keep [P] w w') hB => h.turn k (s' := s.spoil 10) (w' := w') hB (by unfold RS.spoil; split <;> exact h.le)
  have HT := Lib.hid hT
  have e1 : IntKind.i64.wrap ((L : Int) - A) = L - A := IntWalk.i64_in _ (by omega)
  have e2 : (L : Int) - A < n := by omega
  have e3 : decide ((L : Int) - A < n) = true := by simpa using e2
  have HA := Lib.hid hA
  clear hA hL h hT hn e2
  go_enter Try.func110, Try.ntmps110
  go_wp2_with fail
  go_quiet (fail)
  have hBd : Blk (w.drewN nq) P _ 174 := HB.out.drewN
  have kd : Keep [P] w (w.drewN nq) := (Keep.refl _ _).drewN
  generalize w.drewN nq = w1 at hBd kd ⊢
  clear c2 c3 HB
  have c2 : w1.cell? ⟨P, 2, none⟩ = some (.slice va d.length vc) := hBd.cell (i := 2) rfl
  have c3 : w1.cell? ⟨P, 3, none⟩ = some (.int .i64 s.at') := hBd.cell (i := 3) rfl
  rw [HA.out] at c3
  go_upto_region 2 with fail
  go_still_tail 7, (by kernel_rfl)
  change wpList _ _ _ _ _ w1.drew
  have hBe : Blk w1.drew P _ 174 := hBd.drew
  have ke : Keep [P] w w1.drew := kd.drew
  generalize w1.drew = w2 at hBe ke ⊢
  clear c2 c3 hBd kd
  go_wp2_with (first
    | (go_at_call 109; refine (spoil_any P s.code s.place 10 A [.slice va d.length vc, .int .i64 s.at'] 174 _ hBe).mono ?_; rintro e w3 ⟨rfl, hB1, hk1, hs1⟩)
    | fail)
  go_returns
  have k3 : Keep [P] w w3 := ke.trans hk1 (by simp)
  refine ⟨rfl, HT.out _ k3 ?_, k3⟩
  have e : (#[.int .i64 (s.spoil 10).code, .int .i64 (s.spoil 10).place, .slice va d.length vc, .int .i64 (s.spoil 10).at'] : Array Value) = #[.int .i64 (fateC s.code 10), .int .i64 (fateA s.code s.place A), .slice va d.length vc, .int .i64 s.at'] := by
    unfold RS.spoil fateC fateA; split <;> simp [← HA.out]
  rw [e]; exact hB1
end Go.Proofs.Ytpocegdlobnhaaa.Cod

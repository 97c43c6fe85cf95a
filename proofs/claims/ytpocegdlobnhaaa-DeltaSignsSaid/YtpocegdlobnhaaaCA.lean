/- A Writer's fate and its put: what a Writer has, as a relation on its cells. -/
import Derived.Test.YtpocegdlobnhaaaSm
import Derived.Test.YtpocegdlobnhaaaOpenE
import Derived.Test.YtpocegdlobnhaaaChecked
import Derived.StillTailTactics
import Derived.BigQuiet
import Derived.Outline
set_option linter.unusedVariables false
set_option linter.unusedSimpArgs false
set_option maxRecDepth 100000
namespace Go.Proofs.Ytpocegdlobnhaaa.Cod
open Go.RowKit

theorem info5 : (Try.prog.info? 5).map (fun i => (i.zero, i.size, i.bytes)) = some (some (.int .u8 0), 1, 1) := by kernel_rfl

theorem spoilt_any (P : Nat) (code : Int) (w : World) (hc : w.cell? ⟨P, 0, none⟩ = some (.int .i64 code)) :
    Calls Try.prog 115 #[.pointer (some ⟨P, 0, none⟩)] w fun e w' => e = .returned (.bool (!(code == 0))) ∧ w' = w := by
  go_enter Try.func115, Try.ntmps115
  go_wp2_with fail
  go_returns
  exact ⟨rfl, rfl⟩

/-- A fate that goes wrong, if it has not yet. -/
def fateC (code c : Int) : Int := if code = 0 then c else code
def fateA (code at' a : Int) : Int := if code = 0 then a else at'

theorem spoil_any (P : Nat) (code at' c a : Int) (rest : List Value) (t : TypeId) (w : World) (hB : Blk w P (Value.int .i64 code :: Value.int .i64 at' :: rest).toArray t) :
    Calls Try.prog 109 #[.pointer (some ⟨P, 0, none⟩), .int .i64 c, .int .i64 a] w fun e w' => e = .returned (.tuple #[]) ∧ Blk w' P (Value.int .i64 (fateC code c) :: Value.int .i64 (fateA code at' a) :: rest).toArray t ∧ Keep [P] w w' ∧ w'.heap.size = w.heap.size := by
  have c0 : w.cell? ⟨P, 0, none⟩ = some (.int .i64 code) := hB.cell (i := 0) rfl
  have c1 : w.cell? ⟨P, 1, none⟩ = some (.int .i64 at') := hB.cell (i := 1) rfl
  have f0 := hB.free (i := 0)
  have f1 := hB.free (i := 1)
  by_cases h : code = 0
  · subst h
    go_enter Try.func109, Try.ntmps109
    go_wp2_with fail
    go_returns
    refine ⟨rfl, ?_, ((Keep.refl [P] w).set (Or.inl (by simp)) _).set (Or.inl (by simp)) _, by simp⟩
    have := (hB.set 0 (.int .i64 c)).set 1 (.int .i64 a)
    simpa [fateC, fateA] using this
  · have h2 : (code == 0) = false := by simpa using h
    go_enter Try.func109, Try.ntmps109
    go_wp2_with fail
    go_returns
    exact ⟨rfl, by rw [fateC, fateA, if_neg h, if_neg h]; exact hB, Keep.refl _ _, rfl⟩

/-- Block P is a Writer that has d, and is spoilt or not; S: the blocks that it has. -/
def WrAt (w : World) (P : Nat) (S : List Nat) (bad : Bool) (d : List UInt8) : Prop :=
  ∃ code at' v, Blk w P #[.int .i64 code, .int .i64 at', v] 115 ∧ Sl w 5 1 v d.length (bs d) ∧ bad = !(code == 0) ∧ S = P :: blks v ∧ P ∉ blks v
theorem WrAt.keep {w w' : World} {P : Nat} {S T : List Nat} {bad : Bool} {d : List UInt8} (h : WrAt w P S bad d) (k : Keep T w w') (hT : ∀ b ∈ S, b ∉ T) : WrAt w' P S bad d := by
  obtain ⟨code, at', v, hB, hS, h1, rfl, h2⟩ := h
  exact ⟨code, at', v, hB.keep k (hT P (by simp)), hS.keep k (fun b hb => hT b (by simp [hb])), h1, rfl, h2⟩
theorem WrAt.lt {w : World} {P : Nat} {S : List Nat} {bad : Bool} {d : List UInt8} (h : WrAt w P S bad d) : ∀ b ∈ S, b < w.heap.size := by
  obtain ⟨code, at', v, hB, hS, h1, rfl, h2⟩ := h
  intro b hb
  rcases List.mem_cons.1 hb with rfl | hb
  · exact hB.lt
  · exact hS.lt b hb
theorem WrAt.self {w : World} {P : Nat} {S : List Nat} {bad : Bool} {d : List UInt8} (h : WrAt w P S bad d) : P ∈ S := by
  obtain ⟨code, at', v, hB, hS, h1, rfl, h2⟩ := h; simp
/-- What is there behind a put. -/
def putD (bad : Bool) (d xs : List UInt8) : List UInt8 := if bad then d else d ++ xs

set_option maxHeartbeats 2000000 in
theorem put_any (P : Nat) (S : List Nat) (bad may : Bool) (d xs : List UInt8) (a : Option Addr) (n c : Nat) (w : World) (hW : WrAt w P S bad d) (hl : xs.length = n) (hc : a = none → c = 0) (hrd : Rd w a (bs xs)) (hP : xs ≠ [] → ablk a ≠ P)
    (hsum : d.length + n ≤ 140737488355328) :
    Calls Try.prog 99 #[.pointer (some ⟨P, 0, none⟩), .bool may, .slice a n c] w fun e w' => e = .returned (.tuple #[]) ∧ (∃ S', WrAt w' P S' (bad || !may) (putD (bad || !may) d xs) ∧ Fr w S S') ∧ Keep S w w' := by
  obtain ⟨code, at', v, hB, hS, rfl, rfl, hPv⟩ := hW
  obtain ⟨va, vc, rfl, hva, hvr, hvc, hvm, hvn⟩ := hS.form
  have c0 : w.cell? ⟨P, 0, none⟩ = some (.int .i64 code) := hB.cell (i := 0) rfl
  have c1 : w.cell? ⟨P, 2, none⟩ = some (.slice va d.length vc) := hB.cell (i := 2) rfl
  have f1 := hB.free (i := 2)
  cases may with
  | false =>
    have q1 : (fateC code 1 == 0) = false := by unfold fateC; split <;> simp_all
    go_enter Try.func99, Try.ntmps99
    go_wp2_with fail
    go_still_tail 8, (by kernel_rfl)
    have hBd := hB.drew
    obtain ⟨wd, hwd⟩ : ∃ wd, wd = w.drew := ⟨_, rfl⟩
    change wpList _ _ _ _ _ w.drew
    rw [← hwd] at hBd ⊢
    have kd : Keep [P] w wd := by rw [hwd]; exact (Keep.refl _ _).drew
    clear hwd
    go_wp2_with (first
      | (go_at_call 109; refine (spoil_any P code at' 1 (d.length : Int) [.slice va d.length vc] 115 _ hBd).mono ?_; rintro e w1 ⟨rfl, hB1, hk1, hs1⟩
         have c3 := hB1.cell (i := 0) (v := .int .i64 (fateC code 1)) rfl)
      | (go_at_call 115; refine (spoilt_any P _ _ c3).mono ?_; rintro e w1 ⟨rfl, rfl⟩)
      | fail)
    go_returns
    have kP : Keep [P] w w1 := kd.trans hk1 (by simp)
    refine ⟨rfl, ⟨_, ⟨_, _, _, hB1, by have := hS.keep kP (fun b hb => by simp only [List.mem_singleton]; rintro rfl; exact hPv hb); simpa [putD] using this, ?_, rfl, hPv⟩, Fr.refl _ _⟩, kP.mono (by intro b hb; simp only [List.mem_singleton] at hb; subst hb; exact Or.inl (by simp))⟩
    rw [q1]; simp
  | true =>
    by_cases h0 : code = 0
    · subst h0
      go_enter Try.func99, Try.ntmps99
      go_wp2_with (first
        | (go_at_call 115; refine (spoilt_any P 0 _ c0).mono ?_; rintro e w1 ⟨rfl, rfl⟩)
        | (refine wpList_appendS rfl (.tmp 26) (.tmp 27) 22 rfl 5 (.int .u8 0) 1 1 Try.underlying22 info5 rfl (by omega) (.slice va d.length vc) _ _ rfl hS a n c (bs xs) rfl (by rw [bs_length, hl, Nat.mul_one]) hc hrd (bs_one xs) (by simp only [maxLen]; omega) (by omega) ?_; intro v1 w2 hs1 hk1 hb1; obtain ⟨va1, vc1, rfl, -, -, -, -, -⟩ := hs1.form; have hB2 := hB.keep hk1 hPv; have f2 := hB2.free (i := 2); have c2 := hB2.cell (i := 2) (v := .slice va d.length vc) rfl)
        | fail)
      go_returns
      have hB3 := hB2.set 2 (.slice va1 (d.length + n) vc1)
      have hk3 : Keep (P :: blks (.slice va d.length vc)) w1 (w2.setCell ⟨P, 2, none⟩ (.slice va1 (d.length + n) vc1)) := (hk1.mono (by intro b hb; exact Or.inl (by simp [hb]))).set (Or.inl (by simp)) _
      have hPn : P ∉ blks (.slice va1 (d.length + n) vc1) := by
        rcases hb1 with e | e
        · rw [e]; exact hPv
        · intro h; have := e P h; have := hB.lt; omega
      refine ⟨rfl, ⟨P :: blks (.slice va1 (d.length + n) vc1), ⟨0, at', _, by simpa using hB3, ?_, rfl, rfl, hPn⟩, ?_⟩, hk3⟩
      · have := hs1.keep (Keep.set_one w2 ⟨P, 2, none⟩ (.slice va1 (d.length + n) vc1)) (by intro b hb; simp only [List.mem_singleton]; rintro rfl; exact hPn hb)
        show Sl _ 5 1 _ (d ++ xs).length (bs (d ++ xs))
        rw [List.length_append, hl, bs_append]; exact this
      · intro b hb
        rcases List.mem_cons.1 hb with rfl | hb
        · exact Or.inl (by simp)
        · rcases hb1 with e | e
          · rw [e] at hb; exact Or.inl (by simp [hb])
          · exact Or.inr (e b hb)
    · have h2 : (code == 0) = false := by simpa using h0
      go_enter Try.func99, Try.ntmps99
      go_wp2_with (first
        | (go_at_call 115; refine (spoilt_any P code _ c0).mono ?_; rintro e w1 ⟨rfl, rfl⟩)
        | fail)
      go_returns
      refine ⟨rfl, ⟨_, ⟨code, at', _, hB, by simpa [putD, h2] using hS, by simp [h2], rfl, hPv⟩, Fr.refl _ _⟩, Keep.refl _ _⟩
end Go.Proofs.Ytpocegdlobnhaaa.Cod

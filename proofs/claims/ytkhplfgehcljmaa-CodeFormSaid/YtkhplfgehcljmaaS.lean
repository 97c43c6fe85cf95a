/- wrote, write: the program's writer beside the document's. -/
import Derived.Test.YtkhplfgehcljmaaR
set_option linter.unusedVariables false
set_option linter.unusedSimpArgs false
namespace Go.Proofs.Ytkhplfgehcljmaa
open Go.RowKit

theorem wrote_any (P X : Nat) (S T : List Nat) (bad : Bool) (d : List UInt8) (w : World) (hP : WrAt w P S bad d) (hX : WAt w X T bad d) (hd : d.length ≤ 140737488355328) :
    Calls Try.prog 22 #[.pointer (some ⟨P, 0, none⟩), .pointer (some ⟨X, 0, none⟩)] w fun e w' => e = .returned (.bool true) ∧ Keep [] w w' := by
  obtain ⟨v, hB, hS, rfl, hXv⟩ := hX
  obtain ⟨va, vc, rfl, hva, hvr, hvc, hvm, hvn⟩ := hS.form
  cases bad with
  | true =>
    have c1 : w.cell? ⟨X, 1, none⟩ = some (.bool true) := hB.cell (i := 1) rfl
    go_enter Try.func22, Try.ntmps22
    go_wp2_with (first
      | (go_at_call 25; refine (data_bad P S d _ hP).mono ?_; rintro e w1 ⟨rfl, hw⟩; have hw' := hw.symm; subst hw')
      | (go_at_call 26; refine (num'_any _ _).mono ?_; rintro e w1 ⟨rfl, hw⟩; have hw' := hw.symm; subst hw')
      | fail)
    go_returns
    exact ⟨rfl, Keep.refl _ _⟩
  | false =>
    obtain ⟨n, hn⟩ : ∃ n, d.length = n := ⟨_, rfl⟩
    have hdata := data_ok P S d w hP hd
    rw [hn] at hdata hB hd
    rw [hn] at hS
    have HN := Lib.hid hn
    clear hn
    go_enter Try.func22, Try.ntmps22
    go_wp2_with (first
      | (go_at_call 25; refine hdata.mono ?_; rintro e w1 ⟨a1, n1, c1, rfl, rfl, hs1, hf1, hk1⟩
         have hB1 := hB.keep hk1 (by simp)
         have e0 : w1.cell? ⟨X, 0, none⟩ = some (.slice va n1 vc) := hB1.cell (i := 0) rfl
         have e1 : w1.cell? ⟨X, 1, none⟩ = some (.bool false) := hB1.cell (i := 1) rfl
         have hb := bytes_any a1 va n1 n1 c1 vc d d w1 HN.out HN.out hd hs1.use.2.2.1 (hS.keep hk1 (by simp)).use.2.2.1
         rw [beq_self_eq_true] at hb)
      | (go_at_call 26; refine (num'_any _ _).mono ?_; rintro e w2 ⟨rfl, hw⟩; have hw' := hw.symm; subst hw')
      | (go_at_call 35; refine hb.mono ?_; rintro e w2 ⟨rfl, m, rfl⟩)
      | fail)
    go_returns
    exact ⟨rfl, hk1.drewN⟩

/-- The desk at D, with the blocks that it has. -/
def DkAt (w : World) (D : Nat) (T : List Nat) : Prop := ∃ g n c, DeskAt w D g n c ∧ n ≤ 9223372036854775807 ∧ T = [D, g] ∧ g < w.heap.size
theorem DkAt.keep {w w' : World} {D : Nat} {T U : List Nat} (h : DkAt w D T) (k : Keep U w w') (hT : ∀ b ∈ T, b ∉ U) : DkAt w' D T := by
  obtain ⟨g, n, c, h1, h2, rfl, h3⟩ := h
  refine ⟨g, n, c, ⟨h1.len, Nat.lt_of_lt_of_le h1.lt k.size, ?_⟩, h2, rfl, Nat.lt_of_lt_of_le h3 k.size⟩
  rcases h1.at_ with ⟨q1, q2, q3⟩ | ⟨q1, q2, q3⟩
  · exact Or.inl ⟨q1.keep k (hT D (by simp)), q2, q3⟩
  · exact Or.inr ⟨q1, q2.keep k (hT D (by simp)), q3.keep k (hT g (by simp))⟩
theorem DkAt.lt {w : World} {D : Nat} {T : List Nat} (h : DkAt w D T) : ∀ b ∈ T, b < w.heap.size := by
  obtain ⟨g, n, c, h1, h2, rfl, h3⟩ := h
  intro b hb
  simp only [List.mem_cons, List.not_mem_nil, or_false] at hb
  rcases hb with rfl | rfl
  · exact h1.lt
  · exact h3
theorem DkAt.self {w : World} {D : Nat} {T : List Nat} (h : DkAt w D T) : D ∈ T := by
  obtain ⟨g, n, c, h1, h2, rfl, h3⟩ := h; simp
/-- A new desk. -/
theorem DkAt.new (w : World) : DkAt (w.alloc (.cells #[.slice none 0 0] 26)) w.heap.size [w.heap.size, w.heap.size] :=
  ⟨w.heap.size, 0, [], ⟨rfl, by simp, Or.inl ⟨Blk.new w _ 26, rfl, rfl⟩⟩, by omega, rfl, by simp⟩

/-- lay: the desk holds xs, and marks behind it. -/
theorem layD_any (D : Nat) (T : List Nat) (a : Option Addr) (n cap : Nat) (xs : List UInt8) (w : World) (h : DkAt w D T) (hin : InBytes w a n cap xs) (ha : xs ≠ [] → ablk a ∉ T) :
    Calls Try.prog 15 #[.pointer (some ⟨D, 0, none⟩), .slice a n cap] w fun e w' => ∃ g c, e = .returned (.slice (some ⟨g, 0, none⟩) n c) ∧ (DkAt w' D [D, g] ∧ DeskAt w' D g c (laid xs c)) ∧ n + 5 ≤ c ∧ c ≤ 9223372036854775807 ∧ Rd w' (some ⟨g, 0, none⟩) (bs xs) ∧ Keep T w w' ∧ Fr w T [D, g] ∧ g ≠ D := by
  obtain ⟨g, m, c, h1, h2, rfl, h3⟩ := h
  have hle := hin.hle
  have hre := hin.reach
  have hl := hin.hlen
  subst hl
  refine (lay_any D g m c a cap xs w (by omega) h2 h1 hin.rd (fun hx => by have := ha hx; simp at this; exact this)).mono ?_
  rintro e w' ⟨g', n', rfl, q1, q2, q3, q4, q5, q6⟩
  have hg : g' < w'.heap.size := by
    rcases q1.at_ with ⟨z1, z2, z3⟩ | ⟨z1, z2, z3⟩
    · omega
    · exact z3.lt
  refine ⟨g', n', rfl, ⟨⟨g', n', _, q1, q3, rfl, hg⟩, q1⟩, q2, q3, ?_, q4, ?_, q6⟩
  · rcases q1.at_ with ⟨z1, z2, z3⟩ | ⟨z1, z2, z3⟩
    · omega
    · refine Rd.of_blk z3 0 (fun k v hv => ?_)
      rw [Nat.zero_add, laid, List.getElem?_append_left (List.getElem?_eq_some_iff.1 hv).1]; exact hv
  · intro b hb
    simp only [List.mem_cons, List.not_mem_nil, or_false] at hb
    rcases hb with rfl | rfl
    · exact Or.inl (by simp)
    · rcases q5 with rfl | q5
      · exact Or.inl (by simp)
      · exact Or.inr q5
theorem nilIn (w : World) : InBytes w none 0 0 [] := ⟨rfl, Or.inl rfl, Nat.le_refl _, fun _ => rfl, by omega⟩
end Go.Proofs.Ytkhplfgehcljmaa

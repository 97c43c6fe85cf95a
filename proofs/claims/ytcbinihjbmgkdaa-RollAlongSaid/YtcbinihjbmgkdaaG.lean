/- Arguments in worlds to come; the walk of the law package's 'begun'. -/
import Derived.Test.YtcbinihjbmgkdaaF
import Derived.Test.YtcbinihjbmgkdaaOpen
set_option linter.unusedVariables false
set_option linter.unusedSimpArgs false
namespace Go.Proofs.Ytcbinihjbmgkdaa
open Go.RowKit

theorem InRows.cell {w : World} {a : Option Addr} {n cap : Nat} {xss : List (List UInt8)} (h : InRows w a n cap xss) {k : Nat} (hk : k < n) :
    ∃ b off ai li ci, a = some ⟨b, off, none⟩ ∧ b < w.heap.size ∧ w.cell? ⟨b, off + k, none⟩ = some (.slice ai li ci) ∧ InBytes w ai li ci (xss[k]'(by rw [h.hlen]; exact hk)) := by
  obtain ⟨vs, hl, hrd, hv⟩ := h.rows
  obtain ⟨ai, li, ci, e, hb⟩ := hv k (by rw [h.hlen]; exact hk)
  obtain ⟨b, off, ea, hc⟩ := hrd.at (k := k) (by omega)
  obtain ⟨h1, h2⟩ := List.getElem?_eq_some_iff.1 e
  exact ⟨b, off, ai, li, ci, ea, World.block_lt_of_cell? w (a := ⟨b, off + k, none⟩) hc, by rw [hc, h2], hb⟩

theorem InBytes.keep {w w' : World} {a : Option Addr} {n cap : Nat} {xs : List UInt8} {S : List Nat} (h : InBytes w a n cap xs) (k : Keep S w w') (hS : ∀ b ∈ S, w.heap.size ≤ b) : InBytes w' a n cap xs := by
  refine ⟨h.hlen, h.rd.keep k (fun he hs => ?_), h.hle, h.hnil, h.reach⟩
  have := hS _ hs
  have hlt : ablk a < w.heap.size := h.rd.lt (k := 0) (by simp only [bs, List.length_map]; simp [bs] at he; cases xs <;> simp_all)
  omega

theorem lay_n (d g n : Nat) (c : List Value) (a : Option Addr) (l cap : Nat) (xs : List UInt8) (w : World) (hl : xs.length = l) (hlen : l ≤ 140737488351232) (hn : n ≤ 9223372036854775807) (hd : DeskAt w d g n c) (hr : Rd w a (bs xs)) (had : xs ≠ [] → ablk a ≠ d ∧ ablk a ≠ g) :
    Calls Try.prog 12 #[.pointer (some ⟨d, 0, none⟩), .slice a l cap] w fun e w' => ∃ g' n', e = .returned (.slice (some ⟨g', 0, none⟩) l n') ∧ DeskAt w' d g' n' (laid xs n') ∧ l + 5 ≤ n' ∧ n' ≤ 9223372036854775807 ∧ Keep [d, g] w w' ∧ (g' = g ∨ w.heap.size ≤ g') ∧ g' ≠ d := by
  subst hl; exact lay_any d g n c a cap xs w hlen hn hd hr had
theorem lies_n (d g n : Nat) (a : Option Addr) (l cap : Nat) (xs : List UInt8) (w : World) (hl : xs.length = l) (hn : n ≤ 9223372036854775807) (hx : l ≤ n) (hd : DeskAt w d g n (laid xs n)) (hr : Rd w a (bs xs)) :
    Calls Try.prog 14 #[.pointer (some ⟨d, 0, none⟩), .slice a l cap] w fun e w' => e = .returned (.bool true) ∧ ∃ m, w' = w.drewN m := by
  subst hl; exact lies_any d g n a cap xs w hn hx hd hr

theorem DeskAt.keep {w w' : World} {d g n : Nat} {c : List Value} (h : DeskAt w d g n c) (k : Keep [] w w') : DeskAt w' d g n c := by
  refine ⟨h.len, Nat.lt_of_lt_of_le h.lt k.size, ?_⟩
  rcases h.at_ with ⟨h1, h2⟩ | ⟨h1, h2, h3⟩
  · exact Or.inl ⟨h1.keep k (by simp), h2⟩
  · exact Or.inr ⟨h1, h2.keep k (by simp), h3.keep k (by simp)⟩
/-- What was laid is read. -/
theorem DeskAt.rd {w : World} {d g n : Nat} {xs : List UInt8} (h : DeskAt w d g n (laid xs n)) (hg : g ≠ d) : Rd w (some ⟨g, 0, none⟩) (bs xs) := by
  rcases h.at_ with ⟨_, _, h3⟩ | ⟨h1, h2, h3⟩
  · exact absurd h3 hg
  · refine Rd.of_blk h3 0 (fun k v hv => ?_)
    rw [Nat.zero_add, laid, List.getElem?_append_left (List.getElem?_eq_some_iff.1 hv).1]; exact hv
theorem DeskAt.glt {w : World} {d g n : Nat} {c : List Value} (h : DeskAt w d g n c) (hg : g ≠ d) : g < w.heap.size := by
  rcases h.at_ with ⟨_, _, h3⟩ | ⟨h1, h2, h3⟩
  · exact absurd h3 hg
  · exact h3.lt
/-- An argument's block is none of those that came later. -/
theorem InBytes.far {w : World} {a : Option Addr} {n cap : Nat} {xs : List UInt8} (h : InBytes w a n cap xs) {d : Nat} (hd : w.heap.size ≤ d) : xs ≠ [] → ablk a ≠ d := by
  intro he hs
  have hlt : ablk a < w.heap.size := h.rd.lt (k := 0) (by simp only [bs, List.length_map]; cases xs <;> simp_all)
  omega


theorem InBytes.nil (w : World) : InBytes w none 0 0 [] := ⟨rfl, Or.inl rfl, Nat.le_refl _, fun _ => rfl, by omega⟩

/-- A desk, some row of it. -/
def SomeDesk (w : World) (d : Nat) : Prop := ∃ g m c, DeskAt w d g m c ∧ m ≤ 9223372036854775807 ∧ (g = d ∨ g ≠ d)

set_option maxHeartbeats 2000000 in
set_option maxRecDepth 100000 in
theorem begun_any (a : Option Addr) (n cap : Nat) (xs : List UInt8) (w : World) (h : InBytes w a n cap xs) :
    Calls Try.prog 16 #[.slice a n cap] w fun e w' => Keep [] w w' ∧
      ((1 ≤ n ∧ n ≤ 4096 ∧ ∃ r g, e = .returned (.tuple #[.pointer (some ⟨r, 0, none⟩), .bool true]) ∧ RollAt w' r g xs ∧ w.heap.size ≤ r ∧ w.heap.size ≤ g) ∨
       ((n < 1 ∨ 4096 < n) ∧ e = .returned (.tuple #[.pointer none, .bool true]))) := by
  have HLi := Lib.hid h.hlen
  have hle := h.hle
  have hreach := h.reach
  have hfd := Lib.hid (h.far (d := w.heap.size) (Nat.le_refl _))
  have hD : DeskAt (w.alloc (.cells #[.slice none 0 0] 26)) w.heap.size w.heap.size 0 [] := ⟨rfl, by simp, Or.inl ⟨Blk.new _ _ _, rfl, rfl⟩⟩
  have hk0 : Keep [] w (w.alloc (.cells #[.slice none 0 0] 26)) := (Keep.refl _ _).alloc _
  go_enter Try.func16, Try.ntmps16
  go_wp2_with fail
  refine (lay_n w.heap.size w.heap.size 0 [] a n cap xs _ HLi.out (by omega) (by omega) hD (h.rd.keep hk0 (by simp)) (fun e => ⟨hfd.out e, hfd.out e⟩)).mono ?_
  rintro e w1 ⟨g1, n1, rfl, hd1, hn1, hn1', hk1, hg1, hgd1⟩
  have hk1' : Keep [] w w1 := hk0.trans hk1 (by simp)
  have hgW : w.heap.size ≤ g1 := by rcases hg1 with e | e; (omega); (simp at e; omega)
  have hrd1 := hd1.rd hgd1
  have hi1 := h.keep hk1' (by simp)
  clear hD hk0
  by_cases hgood : 1 ≤ n ∧ n ≤ 4096
  · obtain ⟨hg1', hg2'⟩ := hgood
    have d1 : decide ((n : Int) < 1) = false := decide_eq_false (by omega)
    have d2 : decide ((4096 : Int) < n) = false := decide_eq_false (by omega)
    go_wp2_with fail
    refine (new_good _ n n1 xs w1 HLi.out hg1' hg2' hrd1 (by simp)).mono ?_
    rintro e w2 ⟨r, g, rfl, hroll, hr, hg, hk2⟩
    have hd2 := hd1.keep hk2
    have hi2 := hi1.keep hk2 (by simp)
    have hk2' := hk1'.trans' hk2
    have hs2 := hk1'.size
    go_wp2_with fail
    refine (lies_n w.heap.size g1 n1 a n cap xs _ HLi.out hn1' (by omega) hd2 hi2.rd).mono ?_
    rintro e w3 ⟨rfl, m, rfl⟩
    have hd3 : DeskAt (w2.drewN m) w.heap.size g1 n1 (laid xs n1) := hd2.keep (Keep.refl _ _).drewN
    go_wp2_with fail
    refine (lay_n w.heap.size g1 n1 _ none 0 0 [] _ rfl (by omega) hn1' hd3 (Or.inl rfl) (by simp)).mono ?_
    rintro e w4 ⟨g2, n2, rfl, hd4, hn4, hn4', hk4, hg4, hgd4⟩
    have hs3 := hk2'.size
    have hk4' : Keep [] w w4 := (hk2'.drewN (n := m)).trans hk4 (by simp; omega)
    have hroll4 : RollAt w4 r g xs := hroll.keep (((Keep.refl [] w2).drewN (n := m)).mono (T := [w.heap.size, g1]) (by simp) |>.trans hk4 (by simp)) (by
      have h1 := hd1.lt; have h2 := hd1.glt hgd1; simp; omega) (by have h1 := hd1.lt; have h2 := hd1.glt hgd1; simp; omega)
    go_wp2_with fail
    refine (num_any 0 w4).mono ?_
    rintro e w5 ⟨rfl, rfl⟩
    go_wp2
    go_returns
    exact ⟨hk4', Or.inl ⟨hg1', hg2', r, g, rfl, hroll4, by omega, by omega⟩⟩
  · have HB := Lib.hid hgood
    clear hgood
    go_wp2_with fail
    refine (new_bad _ n1 n w1 (by have := HB.out; omega) (by omega)).mono ?_
    rintro e w2 ⟨rfl, rfl⟩
    go_wp2_with fail
    refine (lies_n w.heap.size g1 n1 a n cap xs _ HLi.out hn1' (by omega) hd1 hi1.rd).mono ?_
    rintro e w3 ⟨rfl, m, rfl⟩
    have hd3 : DeskAt (w2.drewN m) w.heap.size g1 n1 (laid xs n1) := hd1.keep (Keep.refl _ _).drewN
    go_wp2_with fail
    refine (lay_n w.heap.size g1 n1 _ none 0 0 [] _ rfl (by omega) hn1' hd3 (Or.inl rfl) (by simp)).mono ?_
    rintro e w4 ⟨g2, n2, rfl, hd4, hn4, hn4', hk4, hg4, hgd4⟩
    have hk4' : Keep [] w w4 := (hk1'.drewN (n := m)).trans hk4 (by simp; omega)
    by_cases hlow : n < 1
    · have d1 : decide ((n : Int) < 1) = true := decide_eq_true (by omega)
      go_wp2_with fail
      refine (num_any 1 w4).mono ?_
      rintro e w5 ⟨rfl, rfl⟩
      go_wp2
      go_returns
      exact ⟨hk4', Or.inr ⟨Or.inl hlow, rfl⟩⟩
    · have d1 : decide ((n : Int) < 1) = false := decide_eq_false (by omega)
      have d2 : decide ((4096 : Int) < n) = true := decide_eq_true (by have := HB.out; omega)
      go_wp2_with fail
      refine (num_any 1 w4).mono ?_
      rintro e w5 ⟨rfl, rfl⟩
      go_wp2
      go_returns
      exact ⟨hk4', Or.inr ⟨Or.inr (by have := HB.out; omega), rfl⟩⟩
end Go.Proofs.Ytcbinihjbmgkdaa

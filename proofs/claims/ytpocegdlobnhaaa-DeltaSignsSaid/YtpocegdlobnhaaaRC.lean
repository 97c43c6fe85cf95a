/- The walks of slices.Clone, New, push, Push, Sum of a Roll, roll.Sum, num. -/
import Derived.Test.YtpocegdlobnhaaaIb
import Derived.Test.YtpocegdlobnhaaaRA
import Derived.Test.YtpocegdlobnhaaaRB
import Derived.StillTailTactics
set_option linter.unusedVariables false
set_option maxRecDepth 100000
namespace Go.Proofs.Ytpocegdlobnhaaa.Rol
open Go.RowKit

theorem sumF_any (a : Option Addr) (cap : Nat) (xs : List UInt8) (w : World) (hlen : xs.length ≤ 9223372036854775807) (hr : Rd w a (bs xs)) :
    Calls Try.prog 44 #[.slice a xs.length cap] w fun e w' => e = .returned (.int .i64 (sumOf xs)) ∧ Keep [] w w' := by
  have h := sums_range xs
  go_enter Try.func44, Try.ntmps44
  go_wp2_with fail
  refine (of_any a cap xs w hlen hr).mono ?_
  rintro e w1 ⟨rfl, hk1⟩
  go_wp2_with fail
  refine (number_any _ _ h.1 h.2 w1).mono ?_
  rintro e w2 ⟨rfl, hk2⟩
  go_wp2
  go_ret
  exact ⟨rfl, hk1.trans' hk2⟩

set_option maxHeartbeats 400000 in
theorem clone_any (a : Option Addr) (cap : Nat) (xs : List UInt8) (w : World) (hlen : xs.length ≤ 140737488355328) (hr : Rd w a (bs xs)) (hc : a = none → cap = 0) :
    Calls Try.prog 118 #[.slice a xs.length cap] w fun e w' => ∃ v, e = .returned v ∧ w'.ownsRow w.heap.size 5 1 v xs.length (bs xs) ∧ Keep [] w w' := by
  cases a with
  | none =>
    obtain rfl : xs = [] := by rcases hr with h | ⟨_, _, h, _⟩; simpa using h; cases h
    obtain rfl := hc rfl
    have hq := fun w => Lib.run_eql_slice_nil (P := Try.prog) w 22 5 none 0 0 0 0 Try.underlying22
    go_enter Try.func118, Try.ntmps118
    go_wp2
    go_ret
    exact ⟨_, rfl, World.ownsRow_nil _ _ _ _, Keep.refl _ _⟩
  | some ad =>
    have hq := fun w => Lib.run_eql_slice_nil (P := Try.prog) w 22 5 (some ad) xs.length cap 0 0 Try.underlying22
    have h0 : (w.alloc (.cells #[] 5)).ownsRow w.heap.size 5 1 (.slice (some ⟨w.heap.size, 0, none⟩) 0 0) 0 [] := World.ownsRow_made w #[] 0 (Nat.le_refl _) (by simp) rfl
    have hr' : Rd (w.alloc (.cells #[] 5)) (some ad) (bs xs) := hr.keep ((Keep.refl [] w).alloc _) (by simp)
    have C1 : Hid ((bs xs).length = xs.length) := bs_length xs
    have C3 : Hid (∀ v ∈ bs xs, v.oneCell' = true) := bs_one xs
    go_enter Try.func118, Try.ntmps118
    go_wp2_with (refine wpList_appendB rfl (.tmp 5) (.tmp 6) 22 rfl w.heap.size 5 (.int .u8 0) 1 Try.underlying22 Try.info5 rfl (.slice (some ⟨w.heap.size, 0, none⟩) 0 0) 0 [] rfl h0 (some ad) xs.length cap (bs xs) rfl C1.out hc hr' C3.out (by simp only [maxLen]; omega) (by omega) (by simp) ?_; intro v' w1 hown hgrow hnil)
    go_ret
    refine ⟨_, rfl, by simpa using hown, ((Keep.refl [] w).alloc _).trans (Keep.of_grown (S := [w.heap.size]) hgrow ?_) (by simp)⟩
    intro k hk; simp [Value.ownBlock] at hk; simp; omega

/-! ### Sums in closed form; a window pushed along -/
def S1 : List UInt8 → Int
  | [] => 0
  | x :: xs => x.toNat + S1 xs
def S2 : List UInt8 → Int
  | [] => 0
  | x :: xs => (xs.length + 1) * x.toNat + S2 xs

theorem S1_snoc (xs : List UInt8) (y : UInt8) : S1 (xs ++ [y]) = S1 xs + y.toNat := by
  induction xs with
  | nil => simp [S1]
  | cons x xs ih => simp only [List.cons_append, S1, ih]; omega
theorem S2_snoc (xs : List UInt8) (y : UInt8) : S2 (xs ++ [y]) = S2 xs + S1 xs + y.toNat := by
  induction xs with
  | nil => simp [S2, S1]
  | cons x xs ih =>
    simp only [List.cons_append, S2, S1, ih, List.length_append, List.length_cons, List.length_nil]
    have : ((xs.length + (0 + 1) : Nat) : Int) + 1 = (xs.length + 1 : Int) + 1 := by omega
    rw [this, Int.add_mul]; omega

theorem sums_closed (xs : List UInt8) : sums xs = (S1 xs % 65536, S2 xs % 65536) := by
  rw [← List.reverse_reverse xs]
  induction xs.reverse with
  | nil => rfl
  | cons y ys ih =>
    rw [List.reverse_cons, S1_snoc, S2_snoc]
    have : sums (ys.reverse ++ [y]) = sumStep (sums ys.reverse) y := by simp only [sums, List.foldl_append]; rfl
    rw [this, ih]
    simp only [sumStep, Prod.mk.injEq]; omega

/-- What 'push' makes of the two sums. -/
def pushS (s : Int × Int) (n : Int) (out inn : UInt8) : Int × Int := ((s.1 + inn.toNat - out.toNat) % 65536, (s.2 + (s.1 + inn.toNat - out.toNat) - n * out.toNat) % 65536)

theorem sums_push (x : UInt8) (xs : List UInt8) (y : UInt8) : sums (xs ++ [y]) = pushS (sums (x :: xs)) (xs.length + 1) x y := by
  rw [sums_closed, sums_closed, S1_snoc, S2_snoc]
  simp only [pushS, S1, S2, Prod.mk.injEq]
  constructor
  · omega
  · generalize ((xs.length : Int) + 1) * (x.toNat : Int) = m
    omega

theorem push_u16 (a b n : Int) (o i : UInt8) : IntKind.u16.wrap (b + IntKind.u16.wrap (IntKind.u16.wrap (a + IntKind.u16.wrap (IntKind.u16.wrap i.toNat - IntKind.u16.wrap o.toNat)) - IntKind.u16.wrap (IntKind.u16.wrap n * IntKind.u16.wrap o.toNat))) = (b + (a + i.toNat - o.toNat) - n * o.toNat) % 65536 := by
  simp only [IntKind.wrap_u16]
  have h : (n % 65536 * (o.toNat % 65536 : Int)) % 65536 = n * o.toNat % 65536 := (Int.mul_emod ..).symm
  rw [h]
  generalize n * (o.toNat : Int) = m
  omega
theorem push_u16a (a : Int) (o i : UInt8) : IntKind.u16.wrap (a + IntKind.u16.wrap (IntKind.u16.wrap i.toNat - IntKind.u16.wrap o.toNat)) = (a + i.toNat - o.toNat) % 65536 := by
  simp only [IntKind.wrap_u16]; omega

theorem push_any (b o n : Nat) (s : Int × Int) (out inn : UInt8) (w : World) (c0 : w.cell? ⟨b, o, none⟩ = some (.int .u16 s.1)) (c1 : w.cell? ⟨b, o + 1, none⟩ = some (.int .u16 s.2))
    (f0 : w.frozen? ⟨b, o, none⟩ = false) (f1 : w.frozen? ⟨b, o + 1, none⟩ = false) (hn : n ≤ 9223372036854775807) :
    Calls Try.prog 120 #[.pointer (some ⟨b, o, none⟩), .int .i64 n, B8 out, B8 inn] w fun e w' => e = .returned (.tuple #[]) ∧
      ∃ m, w' = ((w.setCell ⟨b, o, none⟩ (.int .u16 (pushS s n out inn).1)).setCell ⟨b, o + 1, none⟩ (.int .u16 (pushS s n out inn).2)).drewN m := by
  have c1' : ∀ v, (w.setCell ⟨b, o, none⟩ v).cell? ⟨b, o + 1, none⟩ = some (.int .u16 s.2) := fun v => by rw [World.cell?_setCell_other _ _ _ _ (by simp)]; exact c1
  have c0' : ∀ v, (w.setCell ⟨b, o, none⟩ v).cell? ⟨b, o, none⟩ = some v := fun v => World.cell?_setCell_same _ _ _ c0
  go_enter Try.func120, Try.ntmps120
  go_wp2
  go_region
  go_wp2
  go_end0
  refine ⟨rfl, 1, ?_⟩
  rw [push_u16, push_u16a]
  rfl

/-- A Roll at block r, whose window holds xs, gone round in block g. -/
structure RollAt (w : World) (r g : Nat) (xs : List UInt8) : Prop where
  ex : ∃ cap at_ ring cur, xs = ring.drop at_ ++ ring.take at_ ∧ at_ < ring.length ∧ ring.length ≤ 4096 ∧ g ≠ r ∧
    Blk w r #[.slice (some ⟨g, 0, none⟩) ring.length cap, .int .i64 (at_ : Nat), .int .u16 (sums xs).1, .int .u16 (sums xs).2] 49 ∧ Blk w g (bs ring ++ cur).toArray 5

theorem RollAt.keep {w w' : World} {r g : Nat} {xs : List UInt8} {S : List Nat} (h : RollAt w r g xs) (k : Keep S w w') (h1 : r ∉ S) (h2 : g ∉ S) : RollAt w' r g xs := by
  obtain ⟨cap, at_, ring, cur, a, b, c, d, e, f⟩ := h.ex
  exact ⟨cap, at_, ring, cur, a, b, c, d, e.keep k h1, f.keep k h2⟩

theorem ring_next {α : Type} {ring : List α} {at_ : Nat} {x y : α} {xs : List α} (hat : at_ < ring.length) (h : x :: xs = ring.drop at_ ++ ring.take at_) :
    ring[at_] = x ∧ xs ++ [y] = (ring.set at_ y).drop ((at_ + 1) % ring.length) ++ (ring.set at_ y).take ((at_ + 1) % ring.length) ∧ xs.length + 1 = ring.length := by
  have e : ring.drop at_ = ring[at_] :: ring.drop (at_ + 1) := List.drop_eq_getElem_cons hat
  rw [e, List.cons_append, List.cons.injEq] at h
  obtain ⟨h1, h2⟩ := h
  refine ⟨h1.symm, ?_, ?_⟩
  · subst h2
    by_cases hl : at_ + 1 < ring.length
    · rw [Nat.mod_eq_of_lt hl, List.drop_set_of_lt (by omega), List.take_succ_eq_append_getElem (by simpa using hat), List.take_set_of_le (by omega)]
      simp
    · have : at_ + 1 = ring.length := by omega
      rw [this, Nat.mod_self, List.drop_zero, List.take_zero, List.append_nil, List.drop_length, List.nil_append]
      have : ring.set at_ y = (ring.set at_ y).take (at_ + 1) := (List.take_of_length_le (by simp; omega)).symm
      rw [this, List.take_succ_eq_append_getElem (by simpa using hat), List.take_set_of_le (by omega)]
      simp
  · subst h2; simp; omega

end Go.Proofs.Ytpocegdlobnhaaa.Rol

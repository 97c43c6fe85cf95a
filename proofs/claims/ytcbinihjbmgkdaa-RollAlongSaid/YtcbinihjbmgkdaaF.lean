/- The walk of the law package's 'known', and of 'begun'. -/
import Derived.Test.YtcbinihjbmgkdaaE
import Derived.Lib.SlBytesConst
set_option linter.unusedVariables false
set_option linter.unusedSimpArgs false
namespace Go.Proofs.Ytcbinihjbmgkdaa
open Go.RowKit

theorem call28 (args : Array Value) (w : World) : (callFunc 28 args).run Try.prog w = .ok (.enter 28 args) w := rfl

theorem known1_any (pn pl : Nat) (nv at_ s lv : Int) (w : World) (hn : Blk w pn #[.int .i64 nv] 3) (hl : Blk w pl #[.int .i64 lv] 3) (hne : pn ≠ pl) (b1 : 0 ≤ nv ∧ nv ≤ 1000) (b2 : 0 ≤ at_ ∧ at_ ≤ 1000) :
    Calls Try.prog 28 #[.int .i64 at_, .int .i64 s, .pointer (some ⟨pn, 0, none⟩), .pointer (some ⟨pl, 0, none⟩)] w fun e w' => e = .returned (.bool true) ∧ Blk w' pn #[.int .i64 (nv + 1 + at_)] 3 ∧ Blk w' pl #[.int .i64 s] 3 ∧ Keep [pn, pl] w w' := by
  have c0 := hn.cell (i := 0) rfl
  have c1 := hl.cell (i := 0) rfl
  have f0 := hn.free (i := 0)
  have f1 := hl.free (i := 0)
  obtain ⟨b1, b1'⟩ := b1
  obtain ⟨b2, b2'⟩ := b2
  go_enter Try.func28, Try.ntmps28
  go_wp2
  go_returns
  refine ⟨rfl, ?_, ?_, ?_⟩
  · simp [Blk, heap_setCell_if, hn.hp, hl.hp, objSet_cells, hne]
  · simp [Blk, heap_setCell_if, hn.hp, hl.hp, objSet_cells, hne.symm]
  · repeat (first | exact Keep.refl _ _ | refine Keep.drewN ?_ | refine Keep.set ?_ (by simp) _)

theorem refSum_n (a : Option Addr) (n cap : Nat) (xs : List UInt8) (w : World) (hl : xs.length = n) (hlen : n ≤ 9223372036854775807) (hr : Rd w a (bs xs)) :
    Calls Try.prog 13 #[.slice a n cap] w fun e w' => e = .returned (.int .i64 (sumOf xs)) ∧ Keep [] w w' := by
  subst hl; exact (refSum_any a cap xs w hlen hr).mono fun e w' ⟨h1, h2⟩ => ⟨h1, h2 ▸ Keep.refl _ _⟩
theorem sumF_n (a : Option Addr) (n cap : Nat) (xs : List UInt8) (w : World) (hl : xs.length = n) (hlen : n ≤ 9223372036854775807) (hr : Rd w a (bs xs)) :
    Calls Try.prog 11 #[.slice a n cap] w fun e w' => e = .returned (.int .i64 (sumOf xs)) ∧ Keep [] w w' := by
  subst hl; exact sumF_any a cap xs w hlen hr

theorem equalIn_func (d : Nat) (fn : Fn) (first cap : Array Value) (w : World) : (Op.equalIn (d + 1) 40 (.func fn first cap) .nilFunc).run Try.prog w = .ok false w := by
  simp [Op.equalIn, run_underlying Try.underlying40]
theorem eql_func (fn : Fn) (first cap : Array Value) (w : World) : (binOp .eql 40 (.func fn first cap) .nilFunc).run Try.prog w = .ok (.bool false) w := by
  simp only [binOp]
  simp [Op.equal, Op.maxDepth, equalIn_func 9999]

theorem conv_same (b o n c : Nat) (w : World) : (convert 23 23 (.slice (some ⟨b, o, none⟩) n c)).run Try.prog w = .ok (.slice (some ⟨b, o, none⟩) n c) (frz w b) := run_convert_frz 23 5 Try.underlying23 Try.underlying5 b o n c w

def nAt (k : Nat) : Int := if k = 0 then 0 else if k = 1 then 1 else 3
def lAt (k : Nat) : Int := if k = 0 then 0 else sumOf (window [120, 121, 122, 119] 3 (k - 1))

/-- What holds in 'known' while the windows are gone through. -/
structure KnownInv (W : World) (pn pl r g : Nat) (k sb : Nat) (w : World) : Prop where
  n : Blk w pn #[.int .i64 (nAt k)] 3
  l : Blk w pl #[.int .i64 (lAt k)] 3
  roll : RollAt w r g [121, 122, 119]
  keep : Keep [] W w
  lt : W.heap.size ≤ sb ∧ pn ≠ sb ∧ pl ≠ sb ∧ r ≠ sb ∧ g ≠ sb

theorem KnownInv.stab {W w w' : World} {pn pl r g k sb : Nat} (h : KnownInv W pn pl r g k sb w) (hk : Keep [sb] w w') : KnownInv W pn pl r g k sb w' := by
  obtain ⟨q1, q2, q3, q4, q5⟩ := h.lt
  exact ⟨h.n.keep hk (by simp; omega), h.l.keep hk (by simp; omega), h.roll.keep hk (by simp; omega) (by simp; omega), h.keep.trans hk (by simp; omega), h.lt⟩

/-- What holds at the end of it. -/
structure KnownEnd (W : World) (pn pl r g : Nat) (w : World) : Prop where
  n : Blk w pn #[.int .i64 3] 3
  l : Blk w pl #[.int .i64 (sumOf [121, 122, 119])] 3
  roll : RollAt w r g [121, 122, 119]
  keep : Keep [] W w

theorem KnownEnd.step {W w w' : World} {pn pl r g : Nat} (h : KnownEnd W pn pl r g w) (k : Keep [] w w') : KnownEnd W pn pl r g w' :=
  ⟨h.n.keep k (by simp), h.l.keep k (by simp), h.roll.keep k (by simp) (by simp), h.keep.trans' k⟩

theorem KnownEnd.drew {W w : World} {pn pl r g : Nat} (h : KnownEnd W pn pl r g w) : KnownEnd W pn pl r g w.drew := h.step (Keep.refl _ _).drew
theorem KnownEnd.alloc {W w : World} {pn pl r g : Nat} (h : KnownEnd W pn pl r g w) (o : Obj) : KnownEnd W pn pl r g (w.alloc o) := h.step ((Keep.refl _ _).alloc o)
theorem KnownEnd.frz {W w : World} {pn pl r g b : Nat} (h : KnownEnd W pn pl r g w) (hb : W.heap.size ≤ b ∧ b ≠ pn ∧ b ≠ pl ∧ b ≠ r ∧ b ≠ g) : KnownEnd W pn pl r g (frz w b) := by
  have k : Keep [b] w (Go.Proofs.Ytcbinihjbmgkdaa.frz w b) := (Keep.refl _ _).frz (by simp)
  exact ⟨h.n.keep k (by simp; omega), h.l.keep k (by simp; omega), h.roll.keep k (by simp; omega) (by simp; omega), h.keep.trans k (by simp; omega)⟩
theorem KnownEnd.sizes {W w : World} {pn pl r g : Nat} (h : KnownEnd W pn pl r g w) : W.heap.size ≤ w.heap.size ∧ pn < w.heap.size ∧ pl < w.heap.size ∧ r < w.heap.size ∧ g < w.heap.size := by
  obtain ⟨_, _, _, _, _, _, _, _, hx, hy⟩ := h.roll.ex
  exact ⟨h.keep.size, h.n.lt, h.l.lt, hx.lt, hy.lt⟩

set_option maxHeartbeats 4000000 in
set_option maxRecDepth 100000 in
theorem known_any (W : World) : Calls Try.prog 15 #[] W fun e w' => e = .returned (.bool true) ∧ Keep [] W w' := by
  have hmf : ∀ (fn : Fn) (first cap : Array Value) (w : World), (Instr.makeFunc fn first cap).run Try.prog w = .ok (.func fn first cap) w := fun _ _ _ _ => rfl
  have hfe := eql_func
  have kc := conv_same
  go_enter Try.func15, Try.ntmps15
  go_wp2_with fail
  refine (new_good _ 3 _ [120, 121, 122] _ rfl (by omega) (by omega) ((Rd.made _ _ _ _ _ _ rfl rfl).frz _) (by simp)).mono ?_
  rintro e w1 ⟨r, g, rfl, hroll, hr, hg, hk1⟩
  have hkW1 : Keep [] W w1 := (((Keep.refl [] W).alloc _).frz (by simp)).trans' hk1
  have hr' : W.heap.size ≤ r := by simp [frz_size] at hr; omega
  have hg' : W.heap.size ≤ g := by simp [frz_size] at hg; omega
  clear hr hg hk1
  go_wp2_with fail
  refine (num_any 0 w1).mono ?_
  rintro e w2 ⟨rfl, rfl⟩
  go_wp2_with fail
  refine (pushRoll_any r g 120 [121, 122] 119 w2 hroll).mono ?_
  rintro e w3 ⟨rfl, hroll3, hk3⟩
  have hkW3 : Keep [] W w3 := hkW1.trans hk3 (by simp; omega)
  clear hkW1 hroll
  go_wp2_with fail
  refine (windowsMake_any _ 4 _ 3 [120, 121, 122, 119] _ rfl (by omega) ?_ (by simp)).mono ?_
  · exact (Rd.made _ _ _ _ _ _ (by simp) rfl).frz _
  rintro e w4 ⟨ps, pd, gd, rfl, hat, h1, h2, h3, hlt, hk4⟩
  simp only [World.size_alloc, frz_size] at h1 h2 h3
  have hk34 : Keep [] w3 w4 := (((((Keep.refl [] w3).alloc _).alloc _).alloc _).frz (by simp; omega)).trans' hk4
  have hn4 : Blk w4 w3.heap.size #[.int .i64 0] 3 := ((((Blk.new _ _ _).alloc _).alloc _).frz (by omega)).keep hk4 (by simp)
  have hl4 : Blk w4 (w3.heap.size + 1) #[.int .i64 0] 3 := (((Blk.new' _ _ _ (by simp)).alloc _).frz (by omega)).keep hk4 (by simp)
  have hkW4 : Keep [] W w4 := hkW3.trans' hk34
  have hroll4 : RollAt w4 r g [121, 122, 119] := hroll3.keep hk34 (by simp) (by simp)
  have hs3 := hkW3.size
  have hs34 := hk34.size
  have hrs : r < w3.heap.size ∧ g < w3.heap.size := by
    obtain ⟨_, _, _, _, _, _, _, _, hx, hy⟩ := hroll3.ex
    exact ⟨hx.lt, hy.lt⟩
  obtain ⟨hrs1, hrs2⟩ := hrs
  clear hroll3 hk3
  have hwin := windows_some 28 #[.pointer (some ⟨w3.heap.size, 0, none⟩), .pointer (some ⟨w3.heap.size + 1, 0, none⟩)] ps pd gd 3 [120, 121, 122, 119] w4 (KnownInv W w3.heap.size (w3.heap.size + 1) r g) (KnownEnd W w3.heap.size (w3.heap.size + 1) r g)
    call28 hat hlt (by omega) (by simp)
    (fun sb w hk h1 h2 => ⟨by simpa [nAt] using hn4.keep hk (by simp), by simpa [lAt] using hl4.keep hk (by simp), hroll4.keep hk (by simp) (by simp), hkW4.trans' hk, by omega, by omega, by omega, by omega, by omega⟩)
    (fun k sb w w' h hk => h.stab hk)
    (fun k sb w hkl hsb hsb2 h => by
      have hk2 : k ≤ 1 := by simp at hkl; omega
      obtain ⟨q1, q2, q3, q4, q5⟩ := h.lt
      refine (known1_any w3.heap.size (w3.heap.size + 1) (nAt k) k (sumOf (window [120, 121, 122, 119] 3 k)) (lAt k) w h.n h.l (by omega) (by unfold nAt; split <;> (try split) <;> omega) (by omega)).mono ?_
      rintro e w' ⟨rfl, a1, a2, a3⟩
      have a4 : Keep [] W w' := h.keep.trans a3 (by simp; omega)
      have a5 : RollAt w' r g [121, 122, 119] := h.roll.keep a3 (by simp; omega) (by simp; omega)
      refine ⟨true, rfl, ⟨_, a3, by simp; omega, by simp; omega, by simp; omega, by simp; omega⟩, ?_⟩
      rcases (show k = 0 ∨ k = 1 by omega) with rfl | rfl
      · rw [if_pos (by simp)]
        exact ⟨by simpa [nAt] using a1, by simpa [lAt] using a2, a5, a4, q1, q2, q3, q4, q5⟩
      · rw [if_neg (by simp)]
        exact ⟨by simpa [nAt] using a1, a2, a5, a4⟩)
  have HW := Lib.hid hwin
  clear hwin
  go_wp2_with fail
  refine HW.out.mono ?_
  rintro e w5 ⟨rfl, hE⟩
  have e1 : (((120 : UInt8).toNat : Int) == 120) = true := rfl
  have e2 : (sumOf [1, 2] == 262147) = true := rfl
  have hc5 := hE.n.cell (i := 0) rfl
  have hc6 := hE.l.cell (i := 0) rfl
  have hsz := hE.sizes
  clear HW hn4 hl4 hkW4 hroll4
  go_wp2_with fail
  have x3 := hE.n.lt
  have x4 := hE.l.lt
  have x5 : r < w5.heap.size := by omega
  have x6 : g < w5.heap.size := by omega
  go_region_with (first
      | (go_at_call 17; go_must (refine (sumRoll_any r g [121, 122, 119] _ ?_).mono ?_); go_must (refine KnownEnd.roll (W := W) (pn := w3.heap.size) (pl := w3.heap.size + 1) ?_; (repeat (first | assumption | refine KnownEnd.drew ?_ | refine KnownEnd.alloc ?_ _ | refine KnownEnd.frz ?_ (by omega)))); go_must (rintro e w' ⟨rfl, hkk⟩; have hE' : KnownEnd W w3.heap.size (w3.heap.size + 1) r g w' := KnownEnd.step (by (repeat (first | assumption | refine KnownEnd.drew ?_ | refine KnownEnd.alloc ?_ _ | refine KnownEnd.frz ?_ (by omega)))) hkk; have y1 := hE'.n.cell (i := 0) rfl; have y2 := hE'.l.cell (i := 0) rfl; have y3 := hE'.sizes))
      | (go_at_call 13; refine (refSum_n _ 3 3 [121, 122, 119] _ rfl (by omega) ?_).mono ?_; (repeat (first | exact Rd.made _ _ _ _ _ _ rfl rfl | refine Rd.frz ?_ _ | refine Rd.keep (S := []) ?_ (by assumption) (by simp))); rintro e w' ⟨rfl, hkk⟩; have hE' : KnownEnd W w3.heap.size (w3.heap.size + 1) r g w' := KnownEnd.step (by (repeat (first | assumption | refine KnownEnd.drew ?_ | refine KnownEnd.alloc ?_ _ | refine KnownEnd.frz ?_ (by omega)))) hkk; have y1 := hE'.n.cell (i := 0) rfl; have y2 := hE'.l.cell (i := 0) rfl; have y3 := hE'.sizes)
      | (go_at_call 11; refine (sumF_n _ 2 2 [1, 2] _ rfl (by omega) ?_).mono ?_; exact (Rd.made _ _ _ _ _ _ rfl rfl); rintro e w' ⟨rfl, hkk⟩; have hE' : KnownEnd W w3.heap.size (w3.heap.size + 1) r g w' := KnownEnd.step (by (repeat (first | assumption | refine KnownEnd.drew ?_ | refine KnownEnd.alloc ?_ _ | refine KnownEnd.frz ?_ (by omega)))) hkk))
  all_goals (go_wp2; go_returns; exact ⟨rfl, (by assumption : KnownEnd W w3.heap.size (w3.heap.size + 1) r g _).keep⟩)
end Go.Proofs.Ytcbinihjbmgkdaa

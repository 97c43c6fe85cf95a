/- The law RollTwo: its walk. -/
import Derived.Test.YtcbinihjbmgkdaaAf
import Derived.Test.YtcbinihjbmgkdaaSl
import Derived.Test.YtcbinihjbmgkdaaBg
import Derived.Deep.RegionLaw
set_option linter.unusedVariables false
set_option linter.unusedSimpArgs false
namespace Go.Proofs.Ytcbinihjbmgkdaa
open Go.RowKit

/-- Two Rolls, two rows of bytes beside them, each in blocks of its own. -/
structure TwoInv (W : World) (r g s g2 : Nat) (va vb : Value) (n1 n2 : Nat) (aa bb : List UInt8) (w : World) : Prop where
  ra : RollAt w r g aa
  rb : RollAt w s g2 bb
  sa : Sl w 5 1 va n1 (bs aa)
  sb : Sl w 5 1 vb n2 (bs bb)
  keep : Keep [] W w
  old : ∀ b ∈ [r, g, s, g2], W.heap.size ≤ b
  apart : r ≠ s ∧ r ≠ g2 ∧ g ≠ s ∧ g ≠ g2
  fa : ∀ b ∈ blks va, W.heap.size ≤ b ∧ b ∉ [r, g, s, g2] ∧ b ∉ blks vb
  fb : ∀ b ∈ blks vb, W.heap.size ≤ b ∧ b ∉ [r, g, s, g2]

section
variable {W w w' : World} {r g s g2 : Nat} {va vb : Value} {n1 n2 : Nat} {aa bb : List UInt8}
theorem TwoInv.step (h : TwoInv W r g s g2 va vb n1 n2 aa bb w) (k : Keep [] w w') : TwoInv W r g s g2 va vb n1 n2 aa bb w' :=
  ⟨h.ra.keep k (by simp) (by simp), h.rb.keep k (by simp) (by simp), h.sa.keep k (by simp), h.sb.keep k (by simp), h.keep.trans' k, h.old, h.apart, h.fa, h.fb⟩
theorem TwoInv.swap (h : TwoInv W r g s g2 va vb n1 n2 aa bb w) : TwoInv W s g2 r g vb va n2 n1 bb aa w := by
  obtain ⟨a1, a2, a3, a4⟩ := h.apart
  refine ⟨h.rb, h.ra, h.sb, h.sa, h.keep, ?_, ⟨fun e => a1 e.symm, fun e => a3 e.symm, fun e => a2 e.symm, fun e => a4 e.symm⟩, ?_, ?_⟩
  · intro b hb; exact h.old b (by simp at hb ⊢; omega)
  · intro b hb
    obtain ⟨h1, h2⟩ := h.fb b hb
    refine ⟨h1, by simp at h2 ⊢; omega, fun hx => (h.fa b hx).2.2 hb⟩
  · intro b hb
    obtain ⟨h1, h2, _⟩ := h.fa b hb
    exact ⟨h1, by simp at h2 ⊢; omega⟩
/-- The first Roll is pushed, and the row beside it goes along. -/
theorem TwoInv.push {w1 w2 : World} {x y : UInt8} {rest : List UInt8} {va' : Value} (h : TwoInv W r g s g2 va vb n1 n2 (x :: rest) bb w) (h1 : RollAt w1 r g (rest ++ [y])) (k1 : Keep [r, g] w w1)
    (k0 : Keep [] w1 w') (hs : Sl w2 5 1 va' n1 (bs (rest ++ [y]))) (k2 : Keep (blks va) w' w2) (hb : blks va' = blks va ∨ ∀ b ∈ blks va', w'.heap.size ≤ b) : TwoInv W r g s g2 va' vb n1 n2 (rest ++ [y]) bb w2 := by
  obtain ⟨a1, a2, a3, a4⟩ := h.apart
  have hfa : ∀ b ∈ blks va, b ∉ [r, g, s, g2] := fun b hb => (h.fa b hb).2.1
  have k02 : Keep (blks va) w1 w2 := k0.mono (T := blks va) (by simp) |>.trans k2 (fun b hb => Or.inl hb)
  have hr : r ∉ blks va := fun e => hfa r e (by simp)
  have hg : g ∉ blks va := fun e => hfa g e (by simp)
  have hs' : s ∉ blks va := fun e => hfa s e (by simp)
  have hg2 : g2 ∉ blks va := fun e => hfa g2 e (by simp)
  have hsz : w.heap.size ≤ w'.heap.size := Nat.le_trans k1.size k0.size
  refine ⟨h1.keep k02 hr hg, (h.rb.keep k1 (by simp; exact ⟨fun e => a1 e.symm, fun e => a3 e.symm⟩) (by simp; exact ⟨fun e => a2 e.symm, fun e => a4 e.symm⟩)).keep k02 hs' hg2, hs,
    (h.sb.keep k1 (fun b hb => by have := (h.fb b hb).2; simp at this ⊢; omega)).keep k02 (fun b hb hx => (h.fa b hx).2.2 hb), ?_, h.old, h.apart, ?_, h.fb⟩
  · exact (h.keep.trans k1 (fun b hb => Or.inr (h.old b (by simp at hb ⊢; omega)))).trans k02 (fun b hb => Or.inr (h.fa b hb).1)
  · intro b hb'
    rcases hb with e | e
    · rw [e] at hb'; exact h.fa b hb'
    · have hb2 := e b hb'
      have hw : W.heap.size ≤ w'.heap.size := Nat.le_trans h.keep.size hsz
      have hlt1 := h.ra.lts
      have hlt2 := h.rb.lts
      refine ⟨by omega, by simp; omega, fun hx => ?_⟩
      have := h.sb.lt b hx
      omega
end

theorem RollAt.drew' {w : World} {r g : Nat} {xs : List UInt8} (h : RollAt w r g xs) : RollAt w.drew r g xs := h.keep (S := []) (Keep.refl _ _).drew (by simp) (by simp)
theorem Sl.byte0 {w : World} {v : Value} {n : Nat} {x : UInt8} {rest : List UInt8} (h : Sl w 5 1 v n (bs (x :: rest))) : ∃ g off cap, v = .slice (some ⟨g, off, none⟩) n cap ∧ w.cell? ⟨g, off, none⟩ = some (B8 x) ∧ n ≤ cap ∧ cap ≤ maxLen ∧ blks v = [g] ∧ n = rest.length + 1 := by
  have hl := h.1
  simp only [bs_length, List.length_cons, Nat.mul_one] at hl
  rcases h.2 with ⟨h1, h2⟩ | ⟨g, cap, pre, post, rfl, hb, r1, r2, r3⟩
  · omega
  · refine ⟨g, pre.length, cap, rfl, hb.cell (by simp), r1, r3, rfl, hl.symm⟩

theorem tail_bs {w : World} {v : Value} {n : Nat} {x z : UInt8} {rest : List UInt8} (hn : 1 ≤ n) (h : Sl w 5 1 v (n - 1 + 1) ((bs (x :: rest)).drop (1 * 1) ++ [B8 z])) : Sl w 5 1 v n (bs (rest ++ [z])) := by
  rw [show n - 1 + 1 = n by omega] at h
  simpa [bs] using h

theorem tail_bs1 {w : World} {v : Value} {n : Nat} {x z : UInt8} {rest : List UInt8} (hn : n = 1) (h : Sl w 5 1 v (0 + 1) ((bs (x :: rest)).drop (1 * 1) ++ [B8 z])) : Sl w 5 1 v n (bs (rest ++ [z])) := by
  subst hn
  simpa [bs] using h

set_option maxHeartbeats 4000000 in
set_option maxRecDepth 100000 in
theorem rollTwo_walk (a1 : Option Addr) (l1 c1 : Nat) (xs : List UInt8) (a2 : Option Addr) (l2 c2 : Nat) (ys : List UInt8) (a3 : Option Addr) (l3 c3 : Nat) (zs : List UInt8) (W : World)
    (h1 : InBytes W a1 l1 c1 xs) (h2 : InBytes W a2 l2 c2 ys) (h3 : InBytes W a3 l3 c3 zs) :
    Calls Try.prog 5 #[.slice a1 l1 c1, .slice a2 l2 c2, .slice a3 l3 c3] W fun e w' => e = .returned (.bool true) ∧ Keep [] W w' := by
  have hle1 := h1.hle
  have hle2 := h2.hle
  have hle3 := h3.hle
  have hre1 := h1.reach
  have hre2 := h2.reach
  have hre3 := h3.reach
  have HL1 := Lib.hid h1.hlen
  have HL2 := Lib.hid h2.hlen
  have HL3 := Lib.hid h3.hlen
  by_cases hb1 : 100000 < l1
  · have d1 : decide ((100000 : Int) < l1) = true := decide_eq_true (by omega)
    go_enter Try.func5, Try.ntmps5
    go_wp2
    go_returns
    exact ⟨rfl, Keep.refl _ _⟩
  have d1 : decide ((100000 : Int) < l1) = false := decide_eq_false (by omega)
  by_cases hb2 : 100000 < l2
  · have d2 : decide ((100000 : Int) < l2) = true := decide_eq_true (by omega)
    go_enter Try.func5, Try.ntmps5
    go_wp2
    go_returns
    exact ⟨rfl, Keep.refl _ _⟩
  have d2 : decide ((100000 : Int) < l2) = false := decide_eq_false (by omega)
  by_cases hb3 : 3000 < l3
  · have d3 : decide ((3000 : Int) < l3) = true := decide_eq_true (by omega)
    go_enter Try.func5, Try.ntmps5
    go_wp2
    go_returns
    exact ⟨rfl, Keep.refl _ _⟩
  have d3 : decide ((3000 : Int) < l3) = false := decide_eq_false (by omega)
  have hprod : l3 * (l1 + l2) ≤ 3000 * 200000 := Nat.mul_le_mul (by omega) (by omega)
  have q1 : IntKind.i64.wrap ((l3 : Int) * ((l1 : Int) + l2)) = ((l3 * (l1 + l2) : Nat) : Int) := by rw [← Int.natCast_add, ← Int.natCast_mul]; exact IntWalk.i64_in _ (by omega)
  have q2 : wrap64 ((l3 : Int) * ((l1 : Int) + l2)) = ((l3 * (l1 + l2) : Nat) : Int) := by rw [← Int.natCast_add, ← Int.natCast_mul]; exact IntWalk.wrap64_in _ (by omega)
  generalize l3 * (l1 + l2) = pr at *
  by_cases hwork : 3000000 < pr
  · have d4 : decide ((3000000 : Int) < pr) = true := decide_eq_true (by omega)
    go_enter Try.func5, Try.ntmps5
    go_wp2
    go_returns
    exact ⟨rfl, Keep.refl _ _⟩
  have d4 : decide ((3000000 : Int) < pr) = false := decide_eq_false (by omega)
  go_enter Try.func5, Try.ntmps5
  go_wp2_with fail
  refine (begun_any a1 l1 c1 xs W h1).mono ?_
  rintro e w1 ⟨hk1, hcase1⟩
  rcases hcase1 with ⟨g11, g12, r, g, rfl, hroll1, hr1, hg1⟩ | ⟨hbad, rfl⟩
  · go_wp2_with fail
    refine (begun_any a2 l2 c2 ys w1 (h2.keep hk1 (by simp))).mono ?_
    rintro e w2 ⟨hk2, hcase2⟩
    rcases hcase2 with ⟨g21, g22, s, g2, rfl, hroll2, hr2, hg2⟩ | ⟨hbad, rfl⟩
    · have hkW := hk1.trans' hk2
      have hi1 := h1.keep hkW (by simp)
      have hi2 := h2.keep hkW (by simp)
      have C1 : Hid ((bs xs).length = l1 * 1) := by show _ = _; rw [bs_length, Nat.mul_one]; exact HL1.out
      have C2 : Hid ((bs ys).length = l2 * 1) := by show _ = _; rw [bs_length, Nat.mul_one]; exact HL2.out
      have O1 : Hid (∀ v ∈ bs xs, v.oneCell' = true) := bs_one xs
      have O2 : Hid (∀ v ∈ bs ys, v.oneCell' = true) := bs_one ys
      have S1 : Sl (w2.alloc (.cells #[] 5)) 5 1 (.slice (some ⟨w2.heap.size, 0, none⟩) 0 0) 0 [] := Sl.made w2 5 1 #[] 0 _ rfl rfl (by simp [maxLen])
      have A1 := Lib.hid (hi1.rd.keep (w' := w2.alloc (.cells #[] 5)) (S := []) ((Keep.refl _ _).alloc _) (by simp))
      go_upto_region 8 with (refine wpList_appendS rfl (.tmp 71) (.tmp 72) 23 rfl 5 (.int .u8 0) 1 1 Try.underlying23 Try.info5 rfl (by omega) (.slice (some ⟨w2.heap.size, 0, none⟩) 0 0) 0 [] rfl S1 a1 l1 c1 (bs xs) rfl C1.out h1.hnil A1.out O1.out (by simp only [maxLen]; omega) (by omega) ?_; intro va w3 hsa hka hba)
      have hk3 : Keep [] w2 w3 := ((Keep.refl [] w2).alloc _).trans hka (by simp [blks, Value.ownBlock])
      have hba' : ∀ b ∈ blks va, w2.heap.size ≤ b := by
        intro b hb; rcases hba with e | e
        · rw [e] at hb; simp [blks, Value.ownBlock] at hb; omega
        · have := e b hb; simp at this; omega
      have S2 : Sl (w3.alloc (.cells #[] 5)) 5 1 (.slice (some ⟨w3.heap.size, 0, none⟩) 0 0) 0 [] := Sl.made w3 5 1 #[] 0 _ rfl rfl (by simp [maxLen])
      have A2 := Lib.hid ((hi2.keep hk3 (by simp)).rd.keep (w' := w3.alloc (.cells #[] 5)) (S := []) ((Keep.refl _ _).alloc _) (by simp))
      go_upto_region 9 with (refine wpList_appendS rfl (.tmp 74) (.tmp 75) 23 rfl 5 (.int .u8 0) 1 1 Try.underlying23 Try.info5 rfl (by omega) (.slice (some ⟨w3.heap.size, 0, none⟩) 0 0) 0 [] rfl S2 a2 l2 c2 (bs ys) rfl C2.out h2.hnil A2.out O2.out (by simp only [maxLen]; omega) (by omega) ?_; intro vb w4 hsb hkb hbb)
      have hk4 : Keep [] w3 w4 := ((Keep.refl [] w3).alloc _).trans hkb (by simp [blks, Value.ownBlock])
      have hbb' : ∀ b ∈ blks vb, w3.heap.size ≤ b := by
        intro b hb; rcases hbb with e | e
        · rw [e] at hb; simp [blks, Value.ownBlock] at hb; omega
        · have := e b hb; simp at this; omega
      have hT : TwoInv W r g s g2 va vb l1 l2 xs ys w4 := by
        have e1 := hroll1.lts
        have e2 := hroll2.lts
        have e3 := hkW.size
        have e4 := hk1.size
        have e5 := hk3.size
        have e6 := hk2.size
        refine ⟨((hroll1.keep hk2 (by simp) (by simp)).keep hk3 (by simp) (by simp)).keep hk4 (by simp) (by simp), (hroll2.keep hk3 (by simp) (by simp)).keep hk4 (by simp) (by simp), ?_, ?_, (hkW.trans' hk3).trans' hk4, ?_, ?_, ?_, ?_⟩
        · have := hsa.keep hk4 (by simp); simpa using this
        · simpa using hsb
        · intro b hb; simp at hb; omega
        · omega
        · intro b hb
          have := hba' b hb
          have hlt := hsa.lt b hb
          refine ⟨by omega, by simp; omega, fun hx => ?_⟩
          have := hbb' b hx; omega
        · intro b hb
          have := hbb' b hb
          exact ⟨by omega, by simp; omega⟩
      clear hsa hka hba S1 A1 S2 A2 hsb hkb hbb hba' hbb' hk3 hk4 hroll1 hroll2 hi1 hi2 C1 C2 O1 O2 hkW hk1 hk2
      go_wp2
      go_loopw [11, 12, 13] (fun va vb i wr => ∃ k aa bb, k ≤ l3 ∧ i = .int .i64 (k : Nat) ∧ TwoInv W r g s g2 va vb l1 l2 aa bb wr) (fun _ _ i _ => l3 - (intOf i).toNat)
      case atStart => exact ⟨0, xs, ys, by omega, rfl, hT⟩
      case round =>
        obtain ⟨k, aa, bb, hk, rfl, hI⟩ := hrel
        clear hT
        by_cases hlt : k < l3
        · obtain ⟨z, hz⟩ := get_some (xs := zs) (k := k) (by rw [HL3.out]; exact hlt)
          obtain ⟨b3, o3, rfl, hb3W, hcz0⟩ := h3.rd.byte? hz
          have hcz := hI.keep.cell hcz0 (by simp)
          have nb3 : b3 ∉ [r, g] := by have := hI.old r (by simp); have := hI.old g (by simp); simp; omega
          have nb3' : b3 ∉ [s, g2] := by have := hI.old s (by simp); have := hI.old g2 (by simp); simp; omega
          clear hz hcz0
          go_upto_if 85 with fail
          go_cut [11, 12] (fun va vb wc => ∃ aa bb, TwoInv W r g s g2 va vb l1 l2 aa bb wc)
          case first =>
            by_cases hev : k % 2 = 0
            · have t1 : ((k : Int) % 2 == 0) = true := by rw [beq_iff_eq]; omega
              have hJ := hI
              obtain ⟨x, rest, rfl⟩ : ∃ x rest, aa = x :: rest := by
                have hl := hJ.sa.1
                cases h : aa with
                | nil => rw [h] at hl; simp at hl; omega
                | cons x rest => exact ⟨x, rest, rfl⟩
              obtain ⟨ga, off, cap, rfl, hc0, hcl, hcm, hbl, hln⟩ := hJ.sa.byte0
              have hgn := hJ.fa ga (by rw [hbl]; simp)
              have hgn2 : ga ∉ [r, g] := by have := hgn.2.1; simp at this ⊢; omega
              have hcm' : cap ≤ 9223372036854775807 := by simpa [maxLen] using hcm
              have HBL := Lib.hid hbl
              have HI := Lib.hid hJ
              have hroll := hJ.ra.drew'
              have z0 : 0 < l1 := by omega
              have z0' : (0 : Int) < l1 := by omega
              have z1 : (1 : Int) ≤ l1 := by omega
              have z2 : (k : Int) < l3 := by omega
              have hsl := Lib.hid hJ.sa
              clear hln hbl hgn hI hJ
              go_wp2
              go_region_held3 (fun w' => w'.cell? ⟨b3, o3 + k, none⟩ = some (B8 z) ∧ w'.cell? ⟨ga, off, none⟩ = some (B8 x)) ((first | (constructor <;> assumption) | go_simp))
                ((go_at_call 18; go_must (refine (pushRoll_any r g x rest z _ hroll).mono ?_); go_must (rintro e w5 ⟨rfl, hroll5, hk5⟩; have hcz5 := hk5.cell (v := B8 z) (a := ⟨b3, o3 + k, none⟩) hcz nb3; have hca5 := hk5.cell (v := B8 x) (a := ⟨ga, off, none⟩) hc0 hgn2)))
              go_wp2
              have hsl5 := (hsl.out.keep (S := []) (Keep.refl _ _).drew (by simp)).keep hk5 (by rw [HBL.out]; simpa using hgn2)
              have hsl6 := (hsl5.keep (S := []) ((Keep.refl [] w5).drew.alloc (.cells #[.int .u8 z.toNat] 5)) (by simp)).drop 1 (by omega)
              have hrz : Rd (w5.drew.alloc (.cells #[.int .u8 z.toNat] 5)) (some ⟨w5.heap.size, 0, none⟩) [B8 z] := Rd.made _ _ _ _ _ _ rfl rfl
              have OZ : Hid (∀ v ∈ [B8 z], v.oneCell' = true) := by show ∀ v ∈ _, _; simp [Value.oneCell']
              have hkk : Keep [r, g] wr w5 := (Keep.refl _ _).drew.trans hk5 (by simp)
              have hk0 : Keep [] w5 (w5.drew.alloc (.cells #[.int .u8 z.toNat] 5)) := (Keep.refl _ _).drew.alloc _
              by_cases hc1 : cap = 1
              · subst hc1
                have hll : l1 = 1 := by omega
                have z6 : (1 : Int) = l1 := by omega
                rw [if_pos rfl] at hsl6
                have HLL := Lib.hid hll
                have HS6 : Hid (Sl (w5.drew.alloc (.cells #[.int .u8 z.toNat] 5)) 5 1 (.slice (some ⟨ga, off, none⟩) 0 0) 0 ((bs (x :: rest)).drop (1 * 1))) := by
                  show Sl _ _ _ _ _ _
                  have hsl7 := hsl6
                  rw [show l1 - 1 = 0 by omega] at hsl7; exact hsl7
                clear hll z6 hsl6
                go_region_law (refine step_appendS rfl (.tmp 97) (.tmp 102) 23 rfl 5 (.int .u8 0) 1 1 Try.underlying23 Try.info5 rfl (by omega) (.slice (some ⟨ga, off, none⟩) 0 0) 0 _ rfl HS6.out (some ⟨w5.heap.size, 0, none⟩) 1 1 [B8 z] rfl rfl (by simp) hrz OZ.out (by simp only [maxLen]; omega) (by omega) ?_; intro va6 w6 hs6 hk6 hb6)
                have hres := TwoInv.push HI.out hroll5 hkk hk0 (tail_bs1 HLL.out hs6) (by rw [HBL.out]; exact hk6) (by rw [HBL.out]; exact hb6)
                go_wp2
                go_meet
                case rel => exact ⟨_, _, hres⟩
              · rw [if_neg hc1] at hsl6
                have z5 : (1 : Int) ≤ cap := by omega
                go_region_law (refine step_appendS rfl (.tmp 97) (.tmp 102) 23 rfl 5 (.int .u8 0) 1 1 Try.underlying23 Try.info5 rfl (by omega) (.slice (some ⟨ga, off + 1, none⟩) (l1 - 1) (cap - 1)) (l1 - 1) _ rfl hsl6 (some ⟨w5.heap.size, 0, none⟩) 1 1 [B8 z] rfl rfl (by simp) hrz OZ.out (by simp only [maxLen]; omega) (by omega) ?_; intro va6 w6 hs6 hk6 hb6)
                have hres := TwoInv.push HI.out hroll5 hkk hk0 (tail_bs (by omega) hs6) (by rw [HBL.out]; exact hk6) (by rw [HBL.out]; exact hb6)
                go_wp2
                go_meet
                case rel => exact ⟨_, _, hres⟩
            · have t1 : ((k : Int) % 2 == 0) = false := by rw [beq_eq_false_iff_ne]; omega
              have hJ := hI.swap
              obtain ⟨x, rest, rfl⟩ : ∃ x rest, bb = x :: rest := by
                have hl := hJ.sa.1
                cases h : bb with
                | nil => rw [h] at hl; simp at hl; omega
                | cons x rest => exact ⟨x, rest, rfl⟩
              obtain ⟨ga, off, cap, rfl, hc0, hcl, hcm, hbl, hln⟩ := hJ.sa.byte0
              have hgn := hJ.fa ga (by rw [hbl]; simp)
              have hgn2 : ga ∉ [s, g2] := by have := hgn.2.1; simp at this ⊢; omega
              have hcm' : cap ≤ 9223372036854775807 := by simpa [maxLen] using hcm
              have HBL := Lib.hid hbl
              have HI := Lib.hid hJ
              have hroll := hJ.ra.drew'
              have z0 : 0 < l2 := by omega
              have z0' : (0 : Int) < l2 := by omega
              have z1 : (1 : Int) ≤ l2 := by omega
              have z2 : (k : Int) < l3 := by omega
              have hsl := Lib.hid hJ.sa
              clear hln hbl hgn hI hJ
              go_wp2
              go_region_held3 (fun w' => w'.cell? ⟨b3, o3 + k, none⟩ = some (B8 z) ∧ w'.cell? ⟨ga, off, none⟩ = some (B8 x)) ((first | (constructor <;> assumption) | go_simp))
                ((go_at_call 18; go_must (refine (pushRoll_any s g2 x rest z _ hroll).mono ?_); go_must (rintro e w5 ⟨rfl, hroll5, hk5⟩; have hcz5 := hk5.cell (v := B8 z) (a := ⟨b3, o3 + k, none⟩) hcz nb3'; have hca5 := hk5.cell (v := B8 x) (a := ⟨ga, off, none⟩) hc0 hgn2)))
              go_wp2
              have hsl5 := (hsl.out.keep (S := []) (Keep.refl _ _).drew (by simp)).keep hk5 (by rw [HBL.out]; simpa using hgn2)
              have hsl6 := (hsl5.keep (S := []) ((Keep.refl [] w5).drew.alloc (.cells #[.int .u8 z.toNat] 5)) (by simp)).drop 1 (by omega)
              have hrz : Rd (w5.drew.alloc (.cells #[.int .u8 z.toNat] 5)) (some ⟨w5.heap.size, 0, none⟩) [B8 z] := Rd.made _ _ _ _ _ _ rfl rfl
              have OZ : Hid (∀ v ∈ [B8 z], v.oneCell' = true) := by show ∀ v ∈ _, _; simp [Value.oneCell']
              have hkk : Keep [s, g2] wr w5 := (Keep.refl _ _).drew.trans hk5 (by simp)
              have hk0 : Keep [] w5 (w5.drew.alloc (.cells #[.int .u8 z.toNat] 5)) := (Keep.refl _ _).drew.alloc _
              by_cases hc1 : cap = 1
              · subst hc1
                have hll : l2 = 1 := by omega
                have z6 : (1 : Int) = l2 := by omega
                rw [if_pos rfl] at hsl6
                have HLL := Lib.hid hll
                have HS6 : Hid (Sl (w5.drew.alloc (.cells #[.int .u8 z.toNat] 5)) 5 1 (.slice (some ⟨ga, off, none⟩) 0 0) 0 ((bs (x :: rest)).drop (1 * 1))) := by
                  show Sl _ _ _ _ _ _
                  have hsl7 := hsl6
                  rw [show l2 - 1 = 0 by omega] at hsl7; exact hsl7
                clear hll z6 hsl6
                go_region_law (refine step_appendS rfl (.tmp 115) (.tmp 120) 23 rfl 5 (.int .u8 0) 1 1 Try.underlying23 Try.info5 rfl (by omega) (.slice (some ⟨ga, off, none⟩) 0 0) 0 _ rfl HS6.out (some ⟨w5.heap.size, 0, none⟩) 1 1 [B8 z] rfl rfl (by simp) hrz OZ.out (by simp only [maxLen]; omega) (by omega) ?_; intro va6 w6 hs6 hk6 hb6)
                have hres := TwoInv.push HI.out hroll5 hkk hk0 (tail_bs1 HLL.out hs6) (by rw [HBL.out]; exact hk6) (by rw [HBL.out]; exact hb6)
                go_wp2
                go_meet
                case rel => exact ⟨_, _, hres.swap⟩
              · rw [if_neg hc1] at hsl6
                have z5 : (1 : Int) ≤ cap := by omega
                go_region_law (refine step_appendS rfl (.tmp 115) (.tmp 120) 23 rfl 5 (.int .u8 0) 1 1 Try.underlying23 Try.info5 rfl (by omega) (.slice (some ⟨ga, off + 1, none⟩) (l2 - 1) (cap - 1)) (l2 - 1) _ rfl hsl6 (some ⟨w5.heap.size, 0, none⟩) 1 1 [B8 z] rfl rfl (by simp) hrz OZ.out (by simp only [maxLen]; omega) (by omega) ?_; intro va6 w6 hs6 hk6 hb6)
                have hres := TwoInv.push HI.out hroll5 hkk hk0 (tail_bs (by omega) hs6) (by rw [HBL.out]; exact hk6) (by rw [HBL.out]; exact hb6)
                go_wp2
                go_meet
                case rel => exact ⟨_, _, hres.swap⟩
          case rest =>
            obtain ⟨aa, bb, hJ⟩ := hcut
            clear hI hcz
            obtain ⟨aa1, ca1, rfl, -, ha1, ha2, ha3, ha4⟩ := hJ.sa.form
            obtain ⟨ab1, cb1, rfl, -, hb1', hb2', hb3', hb4⟩ := hJ.sb.form
            have La : Hid (aa.length = l1) := by show _ = _; have := hJ.sa.1; rwa [bs_length, Nat.mul_one] at this
            have Lb : Hid (bb.length = l2) := by show _ = _; have := hJ.sb.1; rwa [bs_length, Nat.mul_one] at this
            have ha3' : ca1 ≤ 9223372036854775807 := by simpa [maxLen] using ha3
            have hb3'' : cb1 ≤ 9223372036854775807 := by simpa [maxLen] using hb3'
            have HJ := Lib.hid hJ
            clear hJ ha3 hb3'
            go_wp2_with fail
            refine (sumRoll_any r g aa wc HJ.out.ra).mono ?_
            rintro e w5 ⟨rfl, hk5⟩
            go_wp2_with fail
            refine (refSum_n _ l1 _ aa w5 La.out (by omega) (ha1.keep hk5 (by simp))).mono ?_
            rintro e w6 ⟨rfl, hk6⟩
            have hk6' := hk5.trans' hk6
            go_wp2_with fail
            refine (sumRoll_any s g2 bb w6 (HJ.out.rb.keep hk6' (by simp) (by simp))).mono ?_
            rintro e w7 ⟨rfl, hk7⟩
            have hk7' := hk6'.trans' hk7
            go_wp2_with fail
            refine (refSum_n _ l2 _ bb w7 Lb.out (by omega) (hb1'.keep hk7' (by simp))).mono ?_
            rintro e w8 ⟨rfl, hk8⟩
            have hk8' := hk7'.trans' hk8
            by_cases h3 : k = 3
            · have t3 : ((k : Int) == 3) = true := by rw [beq_iff_eq]; omega
              have hin : InB w8 ab1 l2 cb1 bb := ⟨Lb.out, hb1'.keep hk8' (by simp), by omega, hb4, by omega, by omega⟩
              go_wp2_with fail
              refine (begun_sl ab1 l2 cb1 bb w8 hin).mono ?_
              rintro e w9 ⟨hk9, hcase⟩
              rcases hcase with ⟨_, _, t, g3, rfl, hroll3, ht, hg3⟩ | ⟨hbad, -⟩
              · have hk9' := hk8'.trans' hk9
                obtain ⟨y, rest, rfl⟩ : ∃ y rest, bb = y :: rest := by
                  have hl := Lb.out
                  cases h : bb with
                  | nil => rw [h] at hl; simp at hl; omega
                  | cons y rest => exact ⟨y, rest, rfl⟩
                have hs9 := hk8'.size
                have hrb := HJ.out.rb.lts
                have hra := HJ.out.ra.lts
                go_wp2_with fail
                refine (sumRoll_any t g3 _ w9 hroll3).mono ?_
                rintro e w10 ⟨rfl, hk10⟩
                go_wp2_with fail
                refine (refSum_n _ l2 _ _ w10 Lb.out (by omega) ((hb1'.keep hk9' (by simp)).keep hk10 (by simp))).mono ?_
                rintro e w11 ⟨rfl, hk11⟩
                have hk11' := hk10.trans' hk11
                go_wp2_with fail
                refine (pushRoll_any t g3 y rest 9 w11 (hroll3.keep hk11' (by simp) (by simp))).mono ?_
                rintro e w12 ⟨rfl, hroll12, hk12⟩
                have hkk : Keep [] wc w12 := (hk9'.trans' hk11').trans hk12 (by simp; omega)
                go_wp2
                exact ⟨⟨k + 1, aa, _, by omega, by go_num, HJ.out.step hkk⟩, by simp [intOf]; omega⟩
              · exact absurd hbad (by omega)
            · have t3 : ((k : Int) == 3) = false := by rw [beq_eq_false_iff_ne]; omega
              go_wp2
              exact ⟨⟨k + 1, aa, bb, by omega, by go_num, HJ.out.step hk8'⟩, by simp [intOf]; omega⟩
        · go_wp2_with fail
          refine (known_any wr).mono ?_
          rintro e w5 ⟨rfl, hk5⟩
          go_wp2
          go_returns
          exact ⟨rfl, hI.keep.trans' hk5⟩
    · go_wp2_with fail
      refine (known_any w2).mono ?_
      rintro e w5 ⟨rfl, hk5⟩
      go_wp2
      go_returns
      exact ⟨rfl, (hk1.trans' hk2).trans' hk5⟩
  · go_wp2_with fail
    refine (begun_any a2 l2 c2 ys w1 (h2.keep hk1 (by simp))).mono ?_
    rintro e w2 ⟨hk2, hcase2⟩
    rcases hcase2 with ⟨g21, g22, s, g2, rfl, hroll2, hr2, hg2⟩ | ⟨hbad2, rfl⟩
    · go_wp2_with fail
      refine (known_any w2).mono ?_
      rintro e w5 ⟨rfl, hk5⟩
      go_wp2
      go_returns
      exact ⟨rfl, (hk1.trans' hk2).trans' hk5⟩
    · go_wp2_with fail
      refine (known_any w2).mono ?_
      rintro e w5 ⟨rfl, hk5⟩
      go_wp2
      go_returns
      exact ⟨rfl, (hk1.trans' hk2).trans' hk5⟩
end Go.Proofs.Ytcbinihjbmgkdaa

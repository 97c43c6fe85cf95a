/- TableJoins: its walk. -/
import Derived.Test.YtjdkeabimcajlaaTk
set_option linter.unusedVariables false
set_option linter.unusedSimpArgs false
namespace Go.Proofs.Ytjdkeabimcajlaa
open Go.RowKit

theorem IdsIn.keepG {w w' w1 : World} {a : Option Addr} {n c g : Nat} {k : List (List UInt8)} (h : IdsIn w a n k) (f : Fr w1 [] (blks (.slice a n c))) (hg : g < w1.heap.size) (kk : Keep [g] w w') : IdsIn w' a n k := by
  refine ⟨h.hlen, h.rd.keep kk (fun e => ?_), h.h32⟩
  cases a with
  | none => rcases h.rd with h | ⟨_, _, h, _⟩; exact absurd h e; cases h
  | some ad =>
    have := fr_old f ad.block (by simp [blks, Value.ownBlock])
    simp only [List.mem_singleton, ablk]
    show ¬ ad.block = g
    omega

set_option maxHeartbeats 2000000 in
set_option maxRecDepth 100000 in
theorem tableJoins_walk (a : Option Addr) (n c : Nat) (l : List Res) (b : Option Addr) (p d : Nat) (m : List Res) (how : Int) (w : World) (hx : RsIn w a n c l) (hy : RsIn w b p d m) :
    Calls Try.prog 5 #[.slice a n c, .slice b p d, .int .i64 how] w fun e w' => e = .returned (.bool true) ∧ Keep [] w w' := by
  have hl := hx.hlen
  have hsh := hx.short
  have hm := hy.hlen
  have hsm := hy.short
  obtain ⟨rs, hrs⟩ : ∃ rs, joinT how l m = rs := ⟨_, rfl⟩
  obtain ⟨is, his⟩ : ∃ rs, joinI how l m = rs := ⟨_, rfl⟩
  obtain ⟨z1, hz1⟩ : ∃ z, joinC how l m = z := ⟨_, rfl⟩
  obtain ⟨k, hk⟩ : ∃ k, flipR l = k := ⟨_, rfl⟩
  obtain ⟨q, hq⟩ : ∃ k, flipR m = k := ⟨_, rfl⟩
  obtain ⟨qs, hqs⟩ : ∃ rs, joinT how k q = rs := ⟨_, rfl⟩
  obtain ⟨js, hjs⟩ : ∃ rs, joinI how k q = rs := ⟨_, rfl⟩
  obtain ⟨z2, hz2⟩ : ∃ z, joinC how k q = z := ⟨_, rfl⟩
  have hkl : k.length = n := by rw [← hk, flip_len, hl]
  have hql : q.length = p := by rw [← hq, flip_len, hm]
  have E1 := Lib.hid (fun a n c b p d W h h' => (join_any a b n c p d l m how W h h').mono (fun e w' hg => by have := giveN (by omega) hg; rwa [hrs, his, hz1] at this) : ∀ a n c b p d W, RsIn W a n c l → RsIn W b p d m → Calls Try.prog 25 #[.slice a n c, .slice b p d, .int .i64 how] W (GiveN W rs is z1))
  have E2 := Lib.hid (fun a n c b p d W h h' => (refJoin_any a b n c p d l m how W h h').mono (fun e w' hg => by have := giveN (by omega) hg; rwa [hrs, his, hz1] at this) : ∀ a n c b p d W, RsIn W a n c l → RsIn W b p d m → Calls Try.prog 26 #[.slice a n c, .slice b p d, .int .i64 how] W (GiveN W rs is z1))
  have E3 := Lib.hid (fun a n c b p d W h h' => (join_any a b n c p d k q how W h h').mono (fun e w' hg => by have := giveN (by omega) hg; rwa [hqs, hjs, hz2] at this) : ∀ a n c b p d W, RsIn W a n c k → RsIn W b p d q → Calls Try.prog 25 #[.slice a n c, .slice b p d, .int .i64 how] W (GiveN W qs js z2))
  have E4 := Lib.hid (fun a n c b p d W h h' => (refJoin_any a b n c p d k q how W h h').mono (fun e w' hg => by have := giveN (by omega) hg; rwa [hqs, hjs, hz2] at this) : ∀ a n c b p d W, RsIn W a n c k → RsIn W b p d q → Calls Try.prog 26 #[.slice a n c, .slice b p d, .int .i64 how] W (GiveN W qs js z2))
  have O1 := Lib.hid (fun W h => by have := other_any a n c l W h; rwa [hk] at this : ∀ W, RsIn W a n c l → Calls Try.prog 20 #[.slice a n c] W fun e w' => ∃ a' c', e = .returned (.slice a' n c') ∧ Sl w' 39 65 (.slice a' n c') n (cellsOf k) ∧ Fr W [] (blks (.slice a' n c')) ∧ Keep [] W w')
  have O2 := Lib.hid (fun W h => by have := other_any b p d m W h; rwa [hq] at this : ∀ W, RsIn W b p d m → Calls Try.prog 20 #[.slice b p d] W fun e w' => ∃ a' c', e = .returned (.slice a' p c') ∧ Sl w' 39 65 (.slice a' p c') p (cellsOf q) ∧ Fr W [] (blks (.slice a' p c')) ∧ Keep [] W w')
  have HL := Lib.hid (And.intro hl (And.intro hm (And.intro hkl hql)))
  clear hrs his hz1 hk hq hqs hjs hz2 hl hm hkl hql
  go_enter Try.func5, Try.ntmps5
  go_upto_region 2 with (first
    | (go_at_call 13; refine (roomy_any a n c l _ hx).mono ?_; rintro e w1 ⟨g, rfl, hB1, hg1, k1⟩)
    | fail)
  have hy1 := hy.keep k1 (by simp)
  go_upto_region 3 with (first
    | (go_at_call 13; refine (roomy_any b p d m _ hy1).mono ?_; rintro e w2 ⟨h, rfl, hC2, hh2, k2⟩)
    | fail)
  have hB2 := hB1.keep k2 (by simp)
  have r1 := room_in hB2 HL.out.1 hsh
  have s1 := room_in hC2 HL.out.2.1 hsm
  go_upto_region 4 with (first
    | (go_at_call 25; refine (E1.out _ n (n + 3) _ p (p + 3) _ r1 s1).mono ?_; rintro e w3 ⟨a3, n3, c3, i3, m3, d3, rfl, t3, u3, f3, f3', b3, k3⟩)
    | fail)
  have kk3 := (k1.trans' k2).trans' k3
  have hx3 := hx.keep kk3 (by simp)
  have hy3 := hy.keep kk3 (by simp)
  go_upto_region 5 with (first
    | (go_at_call 26; refine (E2.out _ n c _ p d _ hx3 hy3).mono ?_; rintro e w4 ⟨a4, n4, c4, i4, m4, d4, rfl, t4, u4, f4, f4', b4, k4⟩)
    | fail)
  have kk4 := kk3.trans' k4
  have t3b := t3.keep k4 (by simp)
  have u3b := u3.keep k4
  have k34 := k3.trans' k4
  have hB4 := hB2.keep k34 (by simp)
  have hC4 := hC2.keep k34 (by simp)
  have hx4 := hx3.keep k4 (by simp)
  have hy4 := hy3.keep k4 (by simp)
  go_upto_region 7 with (first
    | (go_at_call 24; refine (like_eq a3 a4 n3 c3 n4 c4 rs _ t3b t4).mono ?_; rintro e wA ⟨rfl, kA⟩)
    | (go_at_call 27; refine (ids_eq i3 i4 m3 d3 m4 d4 is _ (u3b.keep kA) (u4.keep kA) b3).mono ?_; rintro e wB ⟨rfl, kB⟩; have kAB := kA.trans' kB)
    | (go_at_call 19; refine (kept_eq h p d b m _ (hC4.keep kAC (by simp)) HL.out.2.1 (hy4.keep kAC (by simp))).mono ?_; rintro e wD ⟨rfl, kD⟩)
    | (go_at_call 19; refine (kept_eq g n c a l _ (hB4.keep kAB (by simp)) HL.out.1 (hx4.keep kAB (by simp))).mono ?_; rintro e wC ⟨rfl, kC⟩; have kAC := kAB.trans' kC)
    | fail)
  have kAD := kAC.trans' kD
  have kkD := kk4.trans' kAD
  have hxD := hx.keep kkD (by simp)
  go_upto_region 8 with (first
    | (go_at_call 20; refine (O1.out _ hxD).mono ?_; rintro e w5 ⟨ao, co, rfl, so, fo, k5⟩)
    | fail)
  have hyD := hy.keep (kkD.trans' k5) (by simp)
  go_upto_region 9 with (first
    | (go_at_call 20; refine (O2.out _ hyD).mono ?_; rintro e w6 ⟨bo, eo, rfl, po, go, k6⟩)
    | fail)
  have kD6 := (kAD.trans' k5).trans' k6
  have hB6 := hB4.keep kD6 (by simp)
  have hC6 := hC4.keep kD6 (by simp)
  have sob := so.keep k6 (by simp)
  have ho := RsIn.of_sl' sob HL.out.2.2.1 hsh
  have hcp := copy_room w6 g n (n + 3) co ao l k hB6 HL.out.1 HL.out.2.2.1 ho ho.nil0
  go_upto_region 10 with (first
    | (refine wpList_copyW rfl (.tmp 80) (.tmp 81) 22 22 rfl _ _ rfl rfl hcp ?_; rintro w7 ⟨hB7, k7⟩)
    | fail)
  have g1 := hB1.lt
  have h1 := hC2.lt
  have gh : h ≠ g := by omega
  have g2 : g < w2.heap.size := by have := k2.size; omega
  have g3 : g < w3.heap.size := by have := k3.size; omega
  have h3 : h < w3.heap.size := by have := k3.size; omega
  have g5 : g < w5.heap.size := by have := hB4.lt; have := kAD.size; have := k5.size; omega
  have hD1 : h < wD.heap.size := by have := hC4.lt; have := kAD.size; omega
  have h5 : h < w5.heap.size := by have := k5.size; omega
  have hgw : ∀ b ∈ [g], w.heap.size ≤ b := fun b hb => by simp only [List.mem_singleton] at hb; omega
  have hhw : ∀ b ∈ [h], w.heap.size ≤ b := fun b hb => by have := k1.size; simp only [List.mem_singleton] at hb; omega
  have hC7 := hC6.keep k7 (by simp only [List.mem_singleton]; exact gh)
  have pob := po.keep k7 (fun b hb => by have := fr_old go b hb; simp only [List.mem_singleton]; omega)
  have hp := RsIn.of_sl' pob HL.out.2.2.2 hsm
  have hcq := copy_room w7 h p (p + 3) eo bo m q hC7 HL.out.2.1 HL.out.2.2.2 hp hp.nil0
  go_upto_region 11 with (first
    | (refine wpList_copyW rfl (.tmp 83) (.tmp 84) 22 22 rfl _ _ rfl rfl hcq ?_; rintro w8 ⟨hC8, k8⟩)
    | fail)
  have hB8 := hB7.keep k8 (by simp only [List.mem_singleton]; omega)
  have so8 := (sob.keep k7 (fun b hb => by have := fr_old fo b hb; have := hB4.lt; have := kAD.size; simp only [List.mem_singleton]; omega)).keep k8 (fun b hb => by have := fr_old fo b hb; simp only [List.mem_singleton]; omega)
  have po8 := pob.keep k8 (fun b hb => by have := fr_old go b hb; simp only [List.mem_singleton]; omega)
  have ho8 := RsIn.of_sl' so8 HL.out.2.2.1 hsh
  have hp8 := RsIn.of_sl' po8 HL.out.2.2.2 hsm
  have r8 := room_in hB8 HL.out.2.2.1 hsh
  have s8 := room_in hC8 HL.out.2.2.2 hsm
  have kk8 := (((kkD.trans' k5).trans' k6).trans k7 (fun b hb => Or.inr (hgw b hb))).trans k8 (fun b hb => Or.inr (hhw b hb))
  go_upto_region 12 with (first
    | (go_at_call 25; refine (E3.out _ n (n + 3) _ p (p + 3) _ r8 s8).mono ?_; rintro e w9 ⟨a9, n9, c9, i9, m9, d9, rfl, t9, u9, f9, f9', b9, k9⟩)
    | fail)
  have k46 := kD6
  have t3d := ((t3b.keep k46 (by simp)).keep k7 (fun e => ablk_ne t3b e f3 g2)).keep k8 (fun e => ablk_ne t3b e f3 h1)
  have t4d := ((t4.keep k46 (by simp)).keep k7 (fun e => ablk_ne t4 e f4 g3)).keep k8 (fun e => ablk_ne t4 e f4 h3)
  have u3d := ((u3b.keep k46).keepG f3' g2 k7).keepG f3' h1 k8
  have u4d := ((u4.keep k46).keepG f4' g3 k7).keepG f4' h3 k8
  have ho9 := ho8.keep k9 (by simp)
  have hp9 := hp8.keep k9 (by simp)
  go_upto_region 13 with (first
    | (go_at_call 26; refine (E4.out _ n co _ p eo _ ho9 hp9).mono ?_; rintro e wX ⟨aX, nX, cX, iX, mX, dX, rfl, tX, uX, fX, fX', bX, kX⟩)
    | fail)
  have k9X := k9.trans' kX
  have t9b := t9.keep kX (by simp)
  have u9b := u9.keep kX
  have hB9 := hB8.keep k9X (by simp)
  have hC9 := hC8.keep k9X (by simp)
  have hoX := ho9.keep kX (by simp)
  have hpX := hp9.keep kX (by simp)
  have t3e := t3d.keep k9X (by simp)
  have t4e := t4d.keep k9X (by simp)
  have u3e := u3d.keep k9X
  have u4e := u4d.keep k9X
  have kkX := kk8.trans' k9X
  clear hcp hcq t3 t3b t3d u3 u3b u3d t4 t4d u4 u4d hB1 hB2 hB4 hB6 hB7 hB8 hC2 hC4 hC6 hC7 hC8 so sob so8 po pob po8 ho hp ho8 hp8 ho9 hp9 r1 s1 r8 s8 hx3 hy3 hx4 hy4 hxD hyD hy1 t9 u9
  go_upto_region 15 with (first
    | (go_at_call 24; refine (like_eq a9 aX n9 c9 nX cX qs _ t9b tX).mono ?_; rintro e wE ⟨rfl, kE⟩)
    | (go_at_call 27; refine (ids_eq i9 iX m9 d9 mX dX js _ (u9b.keep kE) (uX.keep kE) b9).mono ?_; rintro e wF ⟨rfl, kF⟩; have kEF := kE.trans' kF)
    | (go_at_call 19; refine (kept_eq h p eo bo q _ (hC9.keep kEG (by simp)) HL.out.2.2.2 (hpX.keep kEG (by simp))).mono ?_; rintro e wH ⟨rfl, kH⟩)
    | (go_at_call 19; refine (kept_eq g n co ao k _ (hB9.keep kEF (by simp)) HL.out.2.2.1 (hoX.keep kEF (by simp))).mono ?_; rintro e wG ⟨rfl, kG⟩; have kEG := kEF.trans' kG)
    | fail)
  have kEH := kEG.trans' kH
  go_wp2_with (first
    | (go_at_call 24; refine (like_eq a3 a4 n3 c3 n4 c4 rs _ (t3e.keep kEH (by simp)) (t4e.keep kEH (by simp))).mono ?_; rintro e wI ⟨rfl, kI⟩; have kEI := kEH.trans' kI)
    | (go_at_call 27; refine (ids_eq i3 i4 m3 d3 m4 d4 is _ (u3e.keep kEI) (u4e.keep kEI) b3).mono ?_; rintro e wJ ⟨rfl, kJ⟩)
    | (go_at_call 21; refine (awake_any _).mono ?_; rintro e wK ⟨rfl, kK⟩)
    | fail)
  go_returns
  exact ⟨rfl, ((kkX.trans' kEI).trans' kJ).trans' kK⟩
end Go.Proofs.Ytjdkeabimcajlaa

/- TableEncodes: its walk. -/
import Derived.Test.YtjdkeabimcajlaaTp
set_option linter.unusedVariables false
set_option linter.unusedSimpArgs false
namespace Go.Proofs.Ytjdkeabimcajlaa
open Go.RowKit

theorem code_back (y : Res) : codeR (codeR y 300) y.code = y := rfl
theorem room_code {w : World} {g : Nat} {y : Res} {k : List Res} (z : Int) (hB : Blk w g (cellsOf (y :: k ++ tails)).toArray 39) : Blk (w.setCell ⟨g, 64, none⟩ (.int .i64 z)) g (cellsOf (codeR y z :: k ++ tails)).toArray 39 := by
  have h := hB.set 64 (.int .i64 z)
  have e := code_set (l := y :: k ++ tails) (i := 0) (x := y) rfl (.int .i64 z) (codeR_cells y z)
  rw [Nat.zero_mul, Nat.zero_add] at e
  rw [e] at h
  exact h
theorem room_cell {w : World} {g : Nat} {y : Res} {k : List Res} (hB : Blk w g (cellsOf (y :: k ++ tails)).toArray 39) : w.cell? ⟨g, 64, none⟩ = some (.int .i64 y.code) := by
  refine hB.cell ?_
  have h := cellsOf_get (l := y :: k ++ tails) (i := 0) (x := y) rfl (j := 64) (by omega)
  rw [Nat.zero_mul, Nat.zero_add] at h
  rw [List.getElem?_toArray, h]; exact y.code_at

theorem rd_keep_g {W W' w1 : World} {a : Option Addr} {n c g : Nat} {xs : List UInt8} (h : Rd W a (bs xs)) (f : Fr w1 [] (blks (.slice a n c))) (hg : g < w1.heap.size) (k : Keep [g] W W') : Rd W' a (bs xs) := by
  refine h.keep k (fun e => ?_)
  cases a with
  | none => rcases h with h | ⟨_, _, h, _⟩; exact absurd h e; cases h
  | some ad =>
    have := fr_old f ad.block (by simp [blks, Value.ownBlock])
    simp only [List.mem_singleton, ablk]
    show ¬ ad.block = g
    omega
theorem ablk_ne {W w1 : World} {a : Option Addr} {n c g : Nat} {l : List Res} (h : RsIn W a n c l) (hl : l ≠ []) (f : Fr w1 [] (blks (.slice a n c))) (hg : g < w1.heap.size) : ablk a ∉ [g] := by
  cases a with
  | none =>
    exfalso
    have h1 := h.nil0 rfl
    exact hl (List.eq_nil_of_length_eq_zero (by rw [h.hlen]; exact h1.2))
  | some ad =>
    have := fr_old f ad.block (by simp [blks, Value.ownBlock])
    simp only [List.mem_singleton, ablk]
    show ¬ ad.block = g
    omega
theorem RsIn.of_sl' {w : World} {a : Option Addr} {n c : Nat} {l : List Res} (h : Sl w 39 65 (.slice a n c) n (cellsOf l)) (hl : l.length = n) (hn : n * 72 ≤ 140737488351232) : RsIn w a n c l := by
  obtain ⟨a', c', e, ea, hrd, hle, hm, hnil⟩ := h.form
  obtain ⟨rfl, rfl⟩ : a = a' ∧ c = c' := by simpa using e
  exact ⟨hl, hrd, hle, hnil, by simpa [maxLen] using hm, hn⟩

set_option maxHeartbeats 2000000 in
set_option maxRecDepth 100000 in
theorem tableEncodes_walk (a : Option Addr) (n c : Nat) (l : List Res) (w : World) (hx : RsIn w a n c l) :
    Calls Try.prog 3 #[.slice a n c] w fun e w' => e = .returned (.bool true) ∧ Keep [] w w' := by
  have hl := hx.hlen
  have hsh := hx.short
  obtain ⟨xs, hxs⟩ : ∃ xs, encX l = xs := ⟨_, rfl⟩
  obtain ⟨z1, hz1⟩ : ∃ z, encC l = z := ⟨_, rfl⟩
  obtain ⟨v1, hv1⟩ : ∃ b, validR l = b := ⟨_, rfl⟩
  obtain ⟨k, hk⟩ : ∃ k, flipR l = k := ⟨_, rfl⟩
  obtain ⟨ys, hys⟩ : ∃ xs, encX k = xs := ⟨_, rfl⟩
  obtain ⟨z2, hz2⟩ : ∃ z, encC k = z := ⟨_, rfl⟩
  obtain ⟨v2, hv2⟩ : ∃ b, validR k = b := ⟨_, rfl⟩
  have hkl : k.length = n := by rw [← hk, flip_len, hl]
  have E1 := Lib.hid (fun a n c W h => by have := encode_any a n c l W h; rwa [hxs, hz1] at this : ∀ a n c W, RsIn W a n c l → Calls Try.prog 14 #[.slice a n c] W (GiveB W xs z1))
  have E2 := Lib.hid (fun a n c W h => by have := refEncode_any a n c l W h; rwa [hxs, hz1] at this : ∀ a n c W, RsIn W a n c l → Calls Try.prog 15 #[.slice a n c] W (GiveB W xs z1))
  have E3 := Lib.hid (fun a n c W h => by have := encode_any a n c k W h; rwa [hys, hz2] at this : ∀ a n c W, RsIn W a n c k → Calls Try.prog 14 #[.slice a n c] W (GiveB W ys z2))
  have E4 := Lib.hid (fun a n c W h => by have := refEncode_any a n c k W h; rwa [hys, hz2] at this : ∀ a n c W, RsIn W a n c k → Calls Try.prog 15 #[.slice a n c] W (GiveB W ys z2))
  have V1 := Lib.hid (fun a n c W h => by have := valid_any a n c l W h; rwa [hv1] at this : ∀ a n c W, RsIn W a n c l → Calls Try.prog 17 #[.slice a n c] W fun e w' => e = .returned (.bool v1) ∧ Keep [] W w')
  have V2 := Lib.hid (fun a n c W h => by have := refValid_any a n c l W h; rwa [hv1] at this : ∀ a n c W, RsIn W a n c l → Calls Try.prog 18 #[.slice a n c] W fun e w' => e = .returned (.bool v1) ∧ Keep [] W w')
  have V3 := Lib.hid (fun a n c W h => by have := valid_any a n c k W h; rwa [hv2] at this : ∀ a n c W, RsIn W a n c k → Calls Try.prog 17 #[.slice a n c] W fun e w' => e = .returned (.bool v2) ∧ Keep [] W w')
  have V4 := Lib.hid (fun a n c W h => by have := refValid_any a n c k W h; rwa [hv2] at this : ∀ a n c W, RsIn W a n c k → Calls Try.prog 18 #[.slice a n c] W fun e w' => e = .returned (.bool v2) ∧ Keep [] W w')
  have OT := Lib.hid (fun W h => by have := other_any a n c l W h; rwa [hk] at this : ∀ W, RsIn W a n c l → Calls Try.prog 20 #[.slice a n c] W fun e w' => ∃ a' c', e = .returned (.slice a' n c') ∧ Sl w' 39 65 (.slice a' n c') n (cellsOf k) ∧ Fr W [] (blks (.slice a' n c')) ∧ Keep [] W w')
  have HL := Lib.hid (And.intro hl hkl)
  have hb1 : (v1 != v1) = false := by cases v1 <;> rfl
  have hb2 : (v2 != v2) = false := by cases v2 <;> rfl
  have hb3 : (v2 == v2) = true := by cases v2 <;> rfl
  clear hxs hz1 hv1 hk hys hz2 hv2 hl hkl
  go_enter Try.func3, Try.ntmps3
  go_upto_region 2 with (first
    | (go_at_call 13; refine (roomy_any a n c l _ hx).mono ?_; rintro e w1 ⟨g, rfl, hB1, hg1, k1⟩)
    | fail)
  have hx1 := hx.keep k1 (by simp)
  have hr1 := room_in hB1 HL.out.1 hsh
  go_upto_region 3 with (first
    | (go_at_call 14; refine (E1.out _ n (n + 3) _ hr1).mono ?_; rintro e w2 ⟨a5, n5, c5, rfl, l5, r5, f5, m5, k2⟩)
    | fail)
  have hx2 := hx1.keep k2 (by simp)
  go_upto_region 4 with (first
    | (go_at_call 15; refine (E2.out _ n c _ hx2).mono ?_; rintro e w3 ⟨a7, n7, c7, rfl, l7, r7, f7, m7, k3⟩)
    | fail)
  have hB3 := (hB1.keep k2 (by simp)).keep k3 (by simp)
  have hx3 := hx2.keep k3 (by simp)
  have r5b := r5.keep k3 (fun _ => by simp)
  have kk3 := (k1.trans' k2).trans' k3
  have g1 := hB1.lt
  go_upto_region 6 with (first
    | (go_at_call 16; refine (same_eq a5 a7 n5 c5 n7 c7 xs _ l5 r5b l7 r7 m5).mono ?_; rintro e w4 ⟨rfl, k4⟩; have hr4 := room_in (hB3.keep k4 (by simp)) HL.out.1 hsh)
    | (go_at_call 17; refine (V1.out _ n (n + 3) _ hr4).mono ?_; rintro e w5 ⟨rfl, k5⟩; have hx5 := (hx3.keep k4 (by simp)).keep k5 (by simp))
    | (go_at_call 18; refine (V2.out _ n c _ hx5).mono ?_; rintro e w6 ⟨rfl, k6⟩; have k456 := (k4.trans' k5).trans' k6; have hB6 := hB3.keep k456 (by simp); have hx6 := hx5.keep k6 (by simp))
    | (go_at_call 19; refine (kept_eq g n c a l _ hB6 HL.out.1 hx6).mono ?_; rintro e w7 ⟨rfl, k7⟩)
    | fail)
  have k37 := k456.trans' k7
  have kk7 := kk3.trans' k37
  have hB7 := hB3.keep k37 (by simp)
  have r5c := r5b.keep k37 (fun _ => by simp)
  have r7c := r7.keep k37 (fun _ => by simp)
  have hx7 := hx.keep kk7 (by simp)
  go_upto_region 7 with (first
    | (go_at_call 20; refine (OT.out _ hx7).mono ?_; rintro e w8 ⟨a9, c9, rfl, s9, f9, k8⟩)
    | fail)
  have hB8 := hB7.keep k8 (by simp)
  have h9 := RsIn.of_sl' s9 HL.out.2 hsh
  have hcp := copy_room w8 g n (n + 3) c9 a9 l k hB8 HL.out.1 HL.out.2 h9 h9.nil0
  go_upto_region 8 with (first
    | (refine wpList_copyW rfl (.tmp 53) (.tmp 54) 22 22 rfl _ _ rfl rfl hcp ?_; rintro w9 ⟨hB9, k9⟩)
    | fail)
  have hgw : ∀ b ∈ [g], w.heap.size ≤ b := fun b hb => by simp only [List.mem_singleton] at hb; omega
  have kk9 := (kk7.trans' k8).trans k9 (fun b hb => Or.inr (hgw b hb))
  have g2 : g < w2.heap.size := by have := k2.size; omega
  have g7 := hB7.lt
  have r5d := rd_keep_g (r5c.keep k8 (fun _ => by simp)) f5 g1 k9
  have r7d := rd_keep_g (r7c.keep k8 (fun _ => by simp)) f7 g2 k9
  have s9b := s9.keep k9 (fun b hb => by have := fr_old f9 b hb; simp only [List.mem_singleton]; omega)
  have h9b := RsIn.of_sl' s9b HL.out.2 hsh
  have hr9 := room_in hB9 HL.out.2 hsh
  go_upto_region 9 with (first
    | (go_at_call 14; refine (E3.out _ n (n + 3) _ hr9).mono ?_; rintro e wA ⟨aA, nA, cA, rfl, lA, rA, fA, mA, kA⟩)
    | fail)
  have h9c := h9b.keep kA (by simp)
  go_upto_region 10 with (first
    | (go_at_call 15; refine (E4.out _ n c9 _ h9c).mono ?_; rintro e wB ⟨aB, nB, cB, rfl, lB, rB, fB, mB, kB⟩)
    | fail)
  have kAB := kA.trans' kB
  have hBB := hB9.keep kAB (by simp)
  have rAb := rA.keep kB (fun _ => by simp)
  have r5e := r5d.keep kAB (fun _ => by simp)
  have r7e := r7d.keep kAB (fun _ => by simp)
  have h9d := h9c.keep kB (by simp)
  clear hcp r5 r5b r5c r5d r7 r7c r7d s9 s9b h9 h9b h9c hr9 hr4 hr1 hB1 hB3 hB6 hB7 hB8 hx1 hx2 hx3 hx5 hx6 hx7 rA
  go_upto_region 12 with (first
    | (go_at_call 16; refine (same_eq a5 a7 n5 c5 n7 c7 xs _ l5 (r5e.keep kC (fun _ => by simp)) l7 (r7e.keep kC (fun _ => by simp)) m5).mono ?_; rintro e wD ⟨rfl, kD⟩; have kCD := kC.trans' kD; have hrD := room_in (hBB.keep kCD (by simp)) HL.out.2 hsh)
    | (go_at_call 16; refine (same_eq aA aB nA cA nB cB ys _ lA rAb lB rB mA).mono ?_; rintro e wC ⟨rfl, kC⟩)
    | (go_at_call 17; refine (V3.out _ n (n + 3) _ hrD).mono ?_; rintro e wE ⟨rfl, kE⟩; have h9e := (h9d.keep kCD (by simp)).keep kE (by simp))
    | (go_at_call 18; refine (V4.out _ n c9 _ h9e).mono ?_; rintro e wF ⟨rfl, kF⟩; have kCF := (kCD.trans' kE).trans' kF; have hBF := hBB.keep kCF (by simp); have h9f := h9e.keep kF (by simp))
    | (go_at_call 19; refine (kept_eq g n c9 a9 k _ hBF HL.out.2 h9f).mono ?_; rintro e wG ⟨rfl, kG⟩)
    | fail)
  have kBG := kCF.trans' kG
  have kkG := (kk9.trans' kAB).trans' kBG
  have hBG := hBB.keep kBG (by simp)
  have h9g := h9d.keep kBG (by simp)
  clear hBB h9d h9e h9f hBF hrD r5e r7e rAb rB
  by_cases hn : n = 0
  · have q : ((n : Int) == 0) = true := by simp [hn]
    have q2 : (n : Int) = 0 := by omega
    clear hn
    go_wp2_with (first
      | (go_at_call 21; refine (awake_any _).mono ?_; rintro e wH ⟨rfl, kH⟩)
      | fail)
    go_returns
    exact ⟨rfl, kkG.trans' kH⟩
  · have q : ((n : Int) == 0) = false := by simp [hn]
    have q2 : ¬ (n : Int) = 0 := by omega
    have q3 : (0 : Int) < n := by omega
    obtain ⟨y, k', rfl⟩ : ∃ y k', k = y :: k' := by cases k with | nil => exact absurd HL.out.2.symm hn | cons y k' => exact ⟨y, k', rfl⟩
    obtain ⟨N, hN, hso⟩ := size39
    have cG := room_cell hBG
    have fG : wG.frozen? ⟨g, 64, none⟩ = false := hBG.free
    obtain ⟨cy, hcy⟩ : ∃ z, y.code = z := ⟨_, rfl⟩
    rw [hcy] at cG
    obtain ⟨wH, hwH⟩ : ∃ W, wG.setCell ⟨g, 64, none⟩ (.int .i64 300) = W := ⟨_, rfl⟩
    have hBH := room_code 300 hBG
    rw [hwH] at hBH
    have kH : Keep [g] wG wH := by rw [← hwH]; exact Keep.set_one wG ⟨g, 64, none⟩ _
    have hrH : RsIn wH (some ⟨g, 0, none⟩) n (n + 3) (codeR y 300 :: k') := room_in hBH (by simpa using HL.out.2) hsh
    have V5 := Lib.hid (valid_any _ n (n + 3) _ wH hrH)
    rw [bad_first] at V5
    have HWH := Lib.hid hwH
    clear hwH hN hn hrH
    go_upto_region 16 with fail
    rw [HWH.out]
    go_upto_region 17 with (first
      | (go_at_call 17; refine V5.out.mono ?_; rintro e wI ⟨rfl, kI⟩)
      | fail)
    have hBI := hBH.keep kI (by simp)
    have cI := room_cell hBI
    have fI : wI.frozen? ⟨g, 64, none⟩ = false := hBI.free
    obtain ⟨wJ, hwJ⟩ : ∃ W, wI.setCell ⟨g, 64, none⟩ (.int .i64 cy) = W := ⟨_, rfl⟩
    have hBJ := room_code cy hBI
    rw [hwJ, ← hcy, code_back] at hBJ
    have kJ : Keep [g] wI wJ := by rw [← hwJ]; exact Keep.set_one wI ⟨g, 64, none⟩ _
    have HWJ := Lib.hid hwJ
    have hrJ := room_in hBJ HL.out.2 hsh
    have kGJ := (kH.trans' kI).trans kJ (fun b hb => Or.inl hb)
    have kkJ := kkG.trans kGJ (fun b hb => Or.inr (hgw b hb))
    have h9h := h9g.keep kGJ (fun e => ablk_ne h9g e f9 g7)
    clear hwJ hBG hBH hBI
    go_upto_region 18 with fail
    rw [HWJ.out]
    go_wp2_with (first
      | (go_at_call 17; refine (V3.out _ n (n + 3) _ hrJ).mono ?_; rintro e wK ⟨rfl, kK⟩; have h9i := h9h.keep kK (by simp))
      | (go_at_call 18; refine (V4.out _ n c9 _ h9i).mono ?_; rintro e wL ⟨rfl, kL⟩)
      | (go_at_call 21; refine (awake_any _).mono ?_; rintro e wM ⟨rfl, kM⟩)
      | fail)
    go_returns
    exact ⟨rfl, ((kkJ.trans' kK).trans' kL).trans' kM⟩
end Go.Proofs.Ytjdkeabimcajlaa

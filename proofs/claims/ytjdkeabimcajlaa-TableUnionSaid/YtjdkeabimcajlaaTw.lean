/- TableWiths: its walk. -/
import Derived.Test.YtjdkeabimcajlaaTe
set_option linter.unusedVariables false
set_option linter.unusedSimpArgs false
namespace Go.Proofs.Ytjdkeabimcajlaa
open Go.RowKit

theorem withR_short {l : List Res} {x : Res} : (givR l x).length ≤ 32 := by
  unfold givR
  split
  · rename_i h
    by_cases hv : validR l = true ∧ fitR x = true
    · by_cases h32 : 32 < (withR l x).length
      · rw [(giv_long hv h32).1] at h; cases h
      · omega
    · rw [(giv_no hv).1] at h; cases h
  · simp
theorem like_eq (a b : Option Addr) (n c m d : Nat) (xs : List Res) (w : World) (hx : RsIn w a n c xs) (hy : RsIn w b m d xs) :
    Calls Try.prog 24 #[.slice a n c, .slice b m d] w fun e w' => e = .returned (.bool true) ∧ Keep [] w w' := by
  have h := like_any a b n c m d xs xs w hx hy
  rwa [decide_eq_true rfl] at h
/-- Give, with the length under a name. -/
theorem give_name {w w' : World} {rs : List Res} {code : Int} {e : Ending} (h : Give w rs code e w') (hn : rs.length ≤ 32) : ∃ a' n' c', e = .returned (.tuple #[.slice a' n' c', .int .i64 code]) ∧ RsIn w' a' n' c' rs ∧ Fr w [] (blks (.slice a' n' c')) ∧ Keep [] w w' := by
  obtain ⟨a', c', rfl, s, f, k⟩ := h
  exact ⟨a', _, c', rfl, RsIn.of_sl s rfl (by omega), f, k⟩

set_option maxHeartbeats 2000000 in
set_option maxRecDepth 100000 in
theorem tableWiths_walk (a : Option Addr) (n c : Nat) (l : List Res) (x : Res) (w : World) (hx : RsIn w a n c l) :
    Calls Try.prog 4 #[.slice a n c, .agg x.cells.toArray] w fun e w' => e = .returned (.bool true) ∧ Keep [] w w' := by
  have hl := hx.hlen
  have hsh := hx.short
  obtain ⟨rs, hrs⟩ : ∃ rs, givR l x = rs := ⟨_, rfl⟩
  obtain ⟨z1, hz1⟩ : ∃ z, withC l x = z := ⟨_, rfl⟩
  obtain ⟨k, hk⟩ : ∃ k, flipR l = k := ⟨_, rfl⟩
  obtain ⟨qs, hqs⟩ : ∃ rs, givR k x = rs := ⟨_, rfl⟩
  obtain ⟨z2, hz2⟩ : ∃ z, withC k x = z := ⟨_, rfl⟩
  have hkl : k.length = n := by rw [← hk, flip_len, hl]
  have E1 := Lib.hid (fun a n c W h => (with_any a n c l x W h).mono (fun e w' hg => by rw [hrs, hz1] at hg; exact give_name hg (by rw [← hrs]; exact withR_short)) : ∀ a n c W, RsIn W a n c l → Calls Try.prog 22 #[.slice a n c, .agg x.cells.toArray] W fun e w' => ∃ a' n' c', e = .returned (.tuple #[.slice a' n' c', .int .i64 z1]) ∧ RsIn w' a' n' c' rs ∧ Fr W [] (blks (.slice a' n' c')) ∧ Keep [] W w')
  have E2 := Lib.hid (fun a n c W h => (refWith_any a n c l x W h).mono (fun e w' hg => by rw [hrs, hz1] at hg; exact give_name hg (by rw [← hrs]; exact withR_short)) : ∀ a n c W, RsIn W a n c l → Calls Try.prog 23 #[.slice a n c, .agg x.cells.toArray] W fun e w' => ∃ a' n' c', e = .returned (.tuple #[.slice a' n' c', .int .i64 z1]) ∧ RsIn w' a' n' c' rs ∧ Fr W [] (blks (.slice a' n' c')) ∧ Keep [] W w')
  have E3 := Lib.hid (fun a n c W h => (with_any a n c k x W h).mono (fun e w' hg => by rw [hqs, hz2] at hg; exact give_name hg (by rw [← hqs]; exact withR_short)) : ∀ a n c W, RsIn W a n c k → Calls Try.prog 22 #[.slice a n c, .agg x.cells.toArray] W fun e w' => ∃ a' n' c', e = .returned (.tuple #[.slice a' n' c', .int .i64 z2]) ∧ RsIn w' a' n' c' qs ∧ Fr W [] (blks (.slice a' n' c')) ∧ Keep [] W w')
  have E4 := Lib.hid (fun a n c W h => (refWith_any a n c k x W h).mono (fun e w' hg => by rw [hqs, hz2] at hg; exact give_name hg (by rw [← hqs]; exact withR_short)) : ∀ a n c W, RsIn W a n c k → Calls Try.prog 23 #[.slice a n c, .agg x.cells.toArray] W fun e w' => ∃ a' n' c', e = .returned (.tuple #[.slice a' n' c', .int .i64 z2]) ∧ RsIn w' a' n' c' qs ∧ Fr W [] (blks (.slice a' n' c')) ∧ Keep [] W w')
  have OT := Lib.hid (fun W h => by have := other_any a n c l W h; rwa [hk] at this : ∀ W, RsIn W a n c l → Calls Try.prog 20 #[.slice a n c] W fun e w' => ∃ a' c', e = .returned (.slice a' n c') ∧ Sl w' 39 65 (.slice a' n c') n (cellsOf k) ∧ Fr W [] (blks (.slice a' n c')) ∧ Keep [] W w')
  have HL := Lib.hid (And.intro hl hkl)
  obtain ⟨T, hT⟩ : ∃ T, w.heap.size = T := ⟨_, rfl⟩
  obtain ⟨W, hW⟩ : ∃ W, w.alloc (.cells x.cells.toArray 39) = W := ⟨_, rfl⟩
  have BX : Blk W T x.cells.toArray 39 := by rw [← hW, ← hT]; exact Blk.new w _ 39
  have kW : Keep [] w W := by rw [← hW]; exact (Keep.refl [] w).alloc _
  have hxW := hx.keep kW (by simp)
  have HW := Lib.hid hW
  have HT := Lib.hid hT
  clear hrs hz1 hk hqs hz2 hl hkl hW hT
  go_enter Try.func4, Try.ntmps4
  go_upto_region 1 with fail
  rw [HW.out, HT.out]
  go_upto_region 2 with (first
    | (go_at_call 13; refine (roomy_any a n c l _ hxW).mono ?_; rintro e w1 ⟨g, rfl, hB1, hg1, k1⟩)
    | fail)
  have hx1 := hxW.keep k1 (by simp)
  have hr1 := room_in hB1 HL.out.1 hsh
  have rX1 := rangeAt_of_blk (BX.keep k1 (by simp))
  go_upto_region 3 with (first
    | (refine wpList_load_mid rfl 39 (.tmp 3) rfl T 0 rfl x.cells _ rX1 Try.underlying39 rfl (hi39 x) ?_)
    | (go_at_call 22; refine (E1.out _ n (n + 3) _ hr1).mono ?_; rintro e w2 ⟨a7, n7, c7, rfl, r7, f7, k2⟩)
    | fail)
  have hx2 := hx1.keep k2 (by simp)
  have rX2 := rangeAt_keep rX1 k2 (by simp)
  go_upto_region 4 with (first
    | (refine wpList_load_mid rfl 39 (.tmp 3) rfl T 0 rfl x.cells _ rX2 Try.underlying39 rfl (hi39 x) ?_)
    | (go_at_call 23; refine (E2.out _ n c _ hx2).mono ?_; rintro e w3 ⟨a9, n9, c9, rfl, r9, f9, k3⟩)
    | fail)
  have hB3 := (hB1.keep k2 (by simp)).keep k3 (by simp)
  have hx3 := hx2.keep k3 (by simp)
  have r7b := r7.keep k3 (by simp)
  have kk3 := ((kW.trans' k1).trans' k2).trans' k3
  have g1 := hB1.lt
  have rX3 := rangeAt_keep rX2 k3 (by simp)
  go_upto_region 6 with (first
    | (go_at_call 24; refine (like_eq a7 a9 n7 c7 n9 c9 rs _ r7b r9).mono ?_; rintro e w4 ⟨rfl, k4⟩)
    | (go_at_call 19; refine (kept_eq g n c a l _ (hB3.keep k4 (by simp)) HL.out.1 (hx3.keep k4 (by simp))).mono ?_; rintro e w5 ⟨rfl, k5⟩)
    | fail)
  have k35 := k4.trans' k5
  have kk5 := kk3.trans' k35
  have hB5 := hB3.keep k35 (by simp)
  have r7c := r7b.keep k35 (by simp)
  have r9c := r9.keep k35 (by simp)
  have hx5 := hx.keep kk5 (by simp)
  go_upto_region 7 with (first
    | (go_at_call 20; refine (OT.out _ hx5).mono ?_; rintro e w6 ⟨ao, co, rfl, so, fo, k6⟩)
    | fail)
  have hB6 := hB5.keep k6 (by simp)
  have ho := RsIn.of_sl' so HL.out.2 hsh
  have hcp := copy_room w6 g n (n + 3) co ao l k hB6 HL.out.1 HL.out.2 ho ho.nil0
  go_upto_region 8 with (first
    | (refine wpList_copyW rfl (.tmp 48) (.tmp 49) 22 22 rfl _ _ rfl rfl hcp ?_; rintro w7 ⟨hB7, k7⟩)
    | fail)
  have hgW : W.heap.size ≤ g := hg1
  have hgw : ∀ b ∈ [g], w.heap.size ≤ b := fun b hb => by have := kW.size; simp only [List.mem_singleton] at hb; omega
  have kk7 := (kk5.trans' k6).trans k7 (fun b hb => Or.inr (hgw b hb))
  have g2 : g < w2.heap.size := by have := k2.size; omega
  have g5 := hB5.lt
  have r7d := (r7c.keep k6 (by simp)).keep k7 (fun e => ablk_ne r7c e f7 g1)
  have r9d := (r9c.keep k6 (by simp)).keep k7 (fun e => ablk_ne r9c e f9 g2)
  have sob := so.keep k7 (fun b hb => by have := fr_old fo b hb; simp only [List.mem_singleton]; omega)
  have hob := RsIn.of_sl' sob HL.out.2 hsh
  have hr7 := room_in hB7 HL.out.2 hsh
  have hTg : T ∉ [g] := by have := BX.lt; simp only [List.mem_singleton]; omega
  have rX7 := rangeAt_keep (rangeAt_keep (rangeAt_keep rX3 k35 (by simp)) k6 (by simp)) k7 hTg
  go_upto_region 9 with (first
    | (refine wpList_load_mid rfl 39 (.tmp 3) rfl T 0 rfl x.cells _ rX7 Try.underlying39 rfl (hi39 x) ?_)
    | (go_at_call 22; refine (E3.out _ n (n + 3) _ hr7).mono ?_; rintro e w8 ⟨aA, nA, cA, rfl, rA, fA, k8⟩)
    | fail)
  have hoc := hob.keep k8 (by simp)
  have rX8 := rangeAt_keep rX7 k8 (by simp)
  go_upto_region 10 with (first
    | (refine wpList_load_mid rfl 39 (.tmp 3) rfl T 0 rfl x.cells _ rX8 Try.underlying39 rfl (hi39 x) ?_)
    | (go_at_call 23; refine (E4.out _ n co _ hoc).mono ?_; rintro e w9 ⟨aB, nB, cB, rfl, rB, fB, k9⟩)
    | fail)
  have k89 := k8.trans' k9
  have hB9 := hB7.keep k89 (by simp)
  have rAb := rA.keep k9 (by simp)
  have r7e := r7d.keep k89 (by simp)
  have r9e := r9d.keep k89 (by simp)
  have hod := hoc.keep k9 (by simp)
  have kk9 := kk7.trans' k89
  clear hcp r7 r7b r7c r7d r9 r9c r9d so sob ho hob hoc hr7 hr1 hB1 hB3 hB5 hB6 hx1 hx2 hx3 hx5 rA rX1 rX2 rX3 rX7 rX8 hxW
  go_wp2_with (first
    | (go_at_call 24; refine (like_eq a7 a9 n7 c7 n9 c9 rs _ (r7e.keep kC (by simp)) (r9e.keep kC (by simp))).mono ?_; rintro e wD ⟨rfl, kD⟩; have kCD := kC.trans' kD)
    | (go_at_call 24; refine (like_eq aA aB nA cA nB cB qs _ rAb rB).mono ?_; rintro e wC ⟨rfl, kC⟩)
    | (go_at_call 19; refine (kept_eq g n co ao k _ (hB9.keep kCD (by simp)) HL.out.2 (hod.keep kCD (by simp))).mono ?_; rintro e wE ⟨rfl, kE⟩)
    | (go_at_call 21; refine (awake_any _).mono ?_; rintro e wF ⟨rfl, kF⟩)
    | fail)
  go_returns
  exact ⟨rfl, ((kk9.trans' kCD).trans' kE).trans' kF⟩
end Go.Proofs.Ytjdkeabimcajlaa

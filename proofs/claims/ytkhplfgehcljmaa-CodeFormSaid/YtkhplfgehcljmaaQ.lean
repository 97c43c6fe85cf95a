/- The reference's reader: TakeText. -/
import Derived.Test.YtkhplfgehcljmaaO
set_option linter.unusedVariables false
set_option linter.unusedSimpArgs false
namespace Go.Proofs.Ytkhplfgehcljmaa
open Go.RowKit

set_option maxHeartbeats 4000000 in
set_option maxRecDepth 100000 in
theorem takeText_ok (X : Nat) (a : Option Addr) (cap : Nat) (d : List UInt8) (s : RS) (most : Int) (w : World) (h : RefAt w X a cap d s) (hc : s.code = 0) (hm : 0 ≤ most) (hm1 : most ≤ 9223372036854775807) :
    Calls Try.prog 41 #[.pointer (some ⟨X, 0, none⟩), .int .i64 most] w (RefGives w X a cap d (rText d s most)) := by
  obtain ⟨A, L, o⟩ := h.opened
  have c0 : w.cell? ⟨X, 0, none⟩ = some (.slice a L cap) := o.blk.cell (i := 0) rfl
  have c1 : w.cell? ⟨X, 1, none⟩ = some (.int .i64 A) := o.blk.cell (i := 1) rfl
  have c2 : w.cell? ⟨X, 2, none⟩ = some (.int .i64 s.code) := o.blk.cell (i := 2) rfl
  rw [hc] at c2
  obtain ⟨r, hr⟩ : ∃ r, numP (d.drop A) = r := ⟨_, rfl⟩
  have hok := numP_ok (d.drop A)
  rw [hr] at hok
  obtain ⟨v, n, c⟩ := r
  obtain ⟨t, ht⟩ : ∃ t, textC most ((L : Int) - A) (v, n, c) = t := ⟨_, rfl⟩
  have hres : rText d s most = if t = 0 then ((d.drop (A + n)).take v, ⟨0, s.place, A + n + v⟩) else ([], s.spoil t) := by
    rw [rText, if_pos hc, if_neg (by omega), o.hA.out, o.hL.out, hr, ht]
  have hnl : c = 0 → v ≤ 2147483647 ∧ (1 ≤ n ∧ n ≤ 5) ∧ A + n ≤ L := fun h => by
    have := hok.ok h
    have h1 := o.h1
    rw [List.length_drop, o.hL.out] at this; simp only at this; omega
  have hno : c ≠ 0 → v = 0 ∧ n = 0 := fun h => by have := hok.no h; simp only at this; omega
  have htt : t = if c = 0 then (if most < (v : Int) then 2 else if (L : Int) - A - n < (v : Int) then 10 else 0) else c := ht.symm
  have hnum : ∀ W, Keep [X] w W → Calls Try.prog 60 #[.slice a L cap, .int .i64 A] W fun e w' => e = .returned (.tuple #[.int .i64 v, .int .i64 n, .int .i64 c]) ∧ w' = W := fun W k => by
    have := refNum_any a L cap A d W o.hL.out (by have := o.h2; omega) o.h1 (o.rd.out W k); rw [hr] at this; exact this
  have HN := Lib.hid hnum
  have HR := Lib.hid hres
  have HC := Lib.hid hc
  have HT := Lib.hid htt
  have g1 := o.h1
  have g2 := o.h2
  have g3 := o.h3
  have g4 := o.h4
  have t0 : decide (most < 0) = false := by simp; omega
  have hXlt := o.blk.lt
  clear hnum hres hc hr hok ht htt
  go_enter Try.func41, Try.ntmps41
  go_wp2_with fail
  go_quiet ((go_at_call 60; refine Calls.quiet_of_same (HN.out _ ((Keep.refl _ _).drewN))))
  have hB : Blk (w.drewN nq) X #[.slice a L cap, .int .i64 A, .int .i64 s.code, .int .i64 s.place] 53 := o.blk.drewN
  have hk : Keep [X] w (w.drewN nq) := (Keep.refl _ _).drewN
  generalize w.drewN nq = wc at hB hk ⊢
  clear c0 c1 c2 t0 HN
  have cB0 : wc.cell? ⟨X, 0, none⟩ = some (.slice a L cap) := hB.cell (i := 0) rfl
  have cB1 : wc.cell? ⟨X, 1, none⟩ = some (.int .i64 A) := hB.cell (i := 1) rfl
  by_cases hc0 : c = 0
  · subst hc0
    obtain ⟨n1, n2, n3⟩ := hnl rfl
    have ht := HT.out
    rw [if_pos rfl] at ht
    clear hnl hno HT
    by_cases h1 : most < (v : Int)
    · rw [if_pos h1] at ht
      subst ht
      have HR' := HR.out
      rw [if_neg (by decide)] at HR'
      have HQ := Lib.hid HR'
      clear HR' HR
      go_wp2_with (first
        | (go_at_call 59; refine (refSpoil_any X a L cap A s.code s.place 2 _ hB).mono ?_; rintro e w3 ⟨rfl, hB1, hk1⟩)
        | fail)
      go_returns
      rw [HQ.out]
      have hsp := o.spoilt HC hk hk1 hB1
      exact RefGives.none hsp.1 hsp.2

    · rw [if_neg h1] at ht
      have t1 : decide (most < (v : Int)) = false := by simpa using h1
      have e1 : IntKind.i64.wrap ((L : Int) - A) = L - A := IntWalk.i64_in _ (by omega)
      have e2 : IntKind.i64.wrap ((L : Int) - A - n) = L - A - n := IntWalk.i64_in _ (by omega)
      by_cases h2 : (L : Int) - A - n < (v : Int)
      · rw [if_pos h2] at ht
        subst ht
        have t2 : decide ((L : Int) - A - n < (v : Int)) = true := by simpa using h2
        have HR' := HR.out
        rw [if_neg (by decide)] at HR'
        have HQ := Lib.hid HR'
        clear HR' HR h1 h2
        go_wp2_with fail
        go_quiet (fail)
        have hBd : Blk (wc.drewN nq) X #[.slice a L cap, .int .i64 A, .int .i64 s.code, .int .i64 s.place] 53 := hB.drewN
        have kd : Keep [X] w (wc.drewN nq) := hk.drewN
        generalize wc.drewN nq = wd at hBd kd ⊢
        clear cB0 cB1 hB hk
        go_wp2_with (first
          | (go_at_call 59; refine (refSpoil_any X a L cap A s.code s.place 10 _ hBd).mono ?_; rintro e w3 ⟨rfl, hB1, hk1⟩)
          | fail)
        go_returns
        rw [HQ.out]
        have hsp := o.spoilt HC kd hk1 hB1
        exact RefGives.none hsp.1 hsp.2

      · rw [if_neg h2] at ht
        subst ht
        have t2 : decide ((L : Int) - A - n < (v : Int)) = false := by simpa using h2
        have hle : A + n + v ≤ L := by omega
        have HR' := HR.out
        rw [if_pos rfl] at HR'
        obtain ⟨R, hR⟩ : ∃ R, (d.drop (A + n)).take v = R := ⟨_, rfl⟩
        have hRl : R.length = v := by rw [← hR, List.length_take, List.length_drop, o.hL.out]; omega
        rw [hR] at HR'
        have HQ := Lib.hid HR'
        clear HR' HR h1 h2
        go_wp2_with fail
        go_quiet (fail)
        have hBd : Blk (wc.drewN nq) X #[.slice a L cap, .int .i64 A, .int .i64 s.code, .int .i64 s.place] 53 := hB.drewN
        have kd : Keep [X] w (wc.drewN nq) := hk.drewN
        generalize wc.drewN nq = wd at hBd kd ⊢
        clear cB0 cB1 hB hk e1 e2 t1 t2
        have hmk := mk_any v (by omega)
        go_upto_region 17 with fail
        have hG := Blk.new wd (Array.replicate v (B8 0)) 5
        have hB1 := hBd.alloc (.cells (Array.replicate v (B8 0)) 5)
        have hk3 := kd.alloc (.cells (Array.replicate v (B8 0)) 5)
        obtain ⟨G, hGG⟩ : ∃ G, wd.heap.size = G := ⟨_, rfl⟩
        have hGX : X ≠ G := by have := hBd.lt; omega
        have hGw : w.heap.size ≤ G := by have := kd.size; omega
        rw [hGG] at hG ⊢
        generalize wd.alloc (.cells (Array.replicate v (B8 0)) 5) = we at hG hB1 hk3 ⊢
        rw [rep_bs] at hG
        clear hGG hBd kd hmk
        have d0 : we.cell? ⟨X, 0, none⟩ = some (.slice a L cap) := hB1.cell (i := 0) rfl
        have d1 : we.cell? ⟨X, 1, none⟩ = some (.int .i64 A) := hB1.cell (i := 1) rfl
        have q3 : IntKind.i64.wrap ((A : Int) + n) = A + n := IntWalk.i64_in _ (by omega)
        have q4 : ((A : Int) + n).toNat = A + n := by omega
        have q5 : (0 : Int) ≤ (A : Int) + n := by omega
        have q6 : (A : Int) + n ≤ L := by omega
        have hsrc : (cap = A + n ∧ v = 0 ∧ L = A + n ∧ R = []) ∨ (cap ≠ A + n ∧ ∃ g off, a = some ⟨g, off, none⟩ ∧ Rd we.drew (some ⟨g, off + (A + n), none⟩) (bs R)) := by
          by_cases e : cap = A + n
          · exact Or.inl ⟨e, by omega, by omega, List.eq_nil_of_length_eq_zero (by omega)⟩
          · right
            have hr := o.rd.out we hk3
            rcases hr with h0 | ⟨b, off, rfl, hcells⟩
            · have hd : d = [] := by simpa [bs] using h0
              have hL := o.hL.out
              rw [hd] at hL
              simp only [List.length_nil] at hL
              omega
            · have := Rd.part (show Rd we (some ⟨b, off, none⟩) (bs d) from Or.inr ⟨b, off, rfl, hcells⟩) (A + n) v
              rw [hR] at this
              exact ⟨e, b, off, rfl, this⟩
        have HRL := Lib.hid hRl
        clear hRl hR
        have hGd := hG.drew
        have hB1d := hB1.drew
        have kd := hk3.drew
        rcases hsrc with ⟨q1, rfl, q2, rfl⟩ | ⟨q1, g, off, rfl, hrd'⟩
        · go_still_tail 12, (by kernel_rfl)
          change wpList _ _ _ _ _ we.drew
          generalize we.drew = w5 at hGd hB1d kd ⊢
          go_wp2_with (first
            | (refine wpList_copyB rfl (.tmp 59) (.tmp 70) 23 23 rfl 5 Try.underlying23 size5 (some ⟨G, 0, none⟩) a 0 0 0 0 rfl rfl G 0 (bs (List.replicate 0 0)) 5 hGd (bs []) rfl (fun _ => rfl) Rd.nil (by simp) (bs_one _) ?_; intro w6 hB6 hk6 hs6; have hX6 := hB1d.keep hk6 (by simpa using hGX); have d1 : w6.cell? ⟨X, 1, none⟩ = some (.int .i64 A) := hX6.cell (i := 1) rfl; have f1 := hX6.free (i := 1))
            | fail)
          go_returns
          rw [HQ.out]
          have hN : ((A : Int) + n) = ((A + n + 0 : Nat) : Int) := by omega
          rw [hN]
          exact o.got HC kd hk6 hB1d hB6.out HRL.out hGX hGw (by omega) (by omega)
        · go_still_tail 12, (by kernel_rfl)
          change wpList _ _ _ _ _ we.drew
          generalize we.drew = w5 at hGd hB1d kd hrd' ⊢
          go_wp2_with (first
            | (refine wpList_copyB rfl (.tmp 59) (.tmp 70) 23 23 rfl 5 Try.underlying23 size5 (some ⟨G, 0, none⟩) (some ⟨g, off + (A + n), none⟩) v v (L - (A + n)) (cap - (A + n)) rfl rfl G 0 (bs (List.replicate v 0)) 5 hGd (bs R) (by rw [bs_length, HRL.out]; exact (Nat.min_eq_right (by omega)).symm) (fun _ => rfl) hrd' (by rw [bs_length, bs_length, HRL.out]; simp) (bs_one _) ?_; intro w6 hB6 hk6 hs6; have hX6 := hB1d.keep hk6 (by simpa using hGX); have d1 : w6.cell? ⟨X, 1, none⟩ = some (.int .i64 A) := hX6.cell (i := 1) rfl; have f1 := hX6.free (i := 1))
            | fail)
          go_returns
          rw [HQ.out]
          have hN : ((A : Int) + n + v) = ((A + n + v : Nat) : Int) := by omega
          rw [hN]
          exact o.got HC kd hk6 hB1d hB6.out HRL.out hGX hGw hle (by omega)
  · obtain ⟨rfl, rfl⟩ := hno hc0
    have ht := HT.out
    rw [if_neg hc0] at ht
    subst ht
    have HR' := HR.out
    rw [if_neg hc0] at HR'
    have HQ := Lib.hid HR'
    have t1 : (t == 0) = false := by simpa using hc0
    have t2 : (t != 0) = true := by simpa using hc0
    clear HR' HR hnl hno HT hc0
    go_wp2_with (first
      | (go_at_call 59; refine (refSpoil_any X a L cap A s.code s.place t _ hB).mono ?_; rintro e w3 ⟨rfl, hB1, hk1⟩)
      | fail)
    go_returns
    rw [HQ.out]
    have hsp := o.spoilt HC hk hk1 hB1
    exact RefGives.none hsp.1 hsp.2

theorem takeText_any (X : Nat) (a : Option Addr) (c : Nat) (d : List UInt8) (s : RS) (n : Int) (w : World) (h : RefAt w X a c d s) (hn : n ≤ 9223372036854775807) :
    Calls Try.prog 41 #[.pointer (some ⟨X, 0, none⟩), .int .i64 n] w (RefGives w X a c d (rText d s n)) := by
  by_cases hc : s.code = 0
  · by_cases h0 : n < 0
    · rw [rText, if_pos hc, if_pos h0]
      refine (takeText_arg X a c d s n w h hc h0).mono ?_
      rintro e w' ⟨rfl, e2, e3⟩
      exact RefGives.none e2 e3
    · exact takeText_ok X a c d s n w h hc (by omega) hn
  · rw [rText, if_neg hc]
    refine (takeText_bad X a c d s n w h hc).mono ?_
    rintro e w' ⟨rfl, rfl⟩
    exact RefGives.none h (Keep.refl _ _)
end Go.Proofs.Ytkhplfgehcljmaa

/- A Reader's Text. -/
import Derived.Test.YtpocegdlobnhaaaCG
set_option linter.unusedVariables false
set_option linter.unusedSimpArgs false
set_option maxRecDepth 100000
namespace Go.Proofs.Ytpocegdlobnhaaa.Cod
open Go.RowKit

/-- The error of a text: of its length, or that it is too long, or that there are too few bytes. -/
def textC (most : Int) (left : Int) (r : Nat × Nat × Int) : Int :=
  if r.2.2 = 0 then (if most < (r.1 : Int) then 2 else if left - r.2.1 < (r.1 : Int) then 10 else 0) else r.2.2
/-- Text, by the document. -/
def rText (d : List UInt8) (s : RS) (most : Int) : List UInt8 × RS :=
  if s.code = 0 then (if most < 0 then ([], s.spoil 1) else
    if textC most ((d.length : Int) - s.at') (numP (d.drop s.at')) = 0 then ((d.drop (s.at' + (numP (d.drop s.at')).2.1)).take (numP (d.drop s.at')).1, ⟨0, s.place, s.at' + (numP (d.drop s.at')).2.1 + (numP (d.drop s.at')).1⟩)
    else ([], s.spoil (textC most ((d.length : Int) - s.at') (numP (d.drop s.at'))))) else ([], s)

theorem rtext_bad (P : Nat) (S : List Nat) (d : List UInt8) (s : RS) (k : Int) (w : World) (h : RdAt w P S d s) (hc : s.code ≠ 0) :
    Calls Try.prog 113 #[.pointer (some ⟨P, 0, none⟩), .int .i64 k] w fun e w' => e = .returned (.slice none 0 0) ∧ w' = w := by
  have h1 : (s.code == 0) = false := by simpa using hc
  go_enter Try.func113, Try.ntmps113
  go_wp2_with (first | (go_at_call 108; refine (goes_any P S d s _ h).mono ?_; rintro e w1 ⟨rfl, rfl⟩) | fail)
  go_returns
  exact ⟨rfl, rfl⟩

set_option maxHeartbeats 2000000 in
set_option maxRecDepth 100000 in
theorem rtext_arg (P : Nat) (d : List UInt8) (s : RS) (va : Option Addr) (vc : Nat) (k : Int) (w : World) (h : RdCells w P d s va vc) (hc : s.code = 0) (hk : k < 0) :
    Calls Try.prog 113 #[.pointer (some ⟨P, 0, none⟩), .int .i64 k] w fun e w' => e = .returned (.slice none 0 0) ∧ RdCells w' P d (s.spoil 1) va vc ∧ Keep [P] w w' := by
  obtain ⟨A, L, o⟩ := h.opened
  have h0 := goes_any P _ d s w ⟨va, vc, h, rfl⟩
  rw [hc] at h0
  have HC := Lib.hid hc
  have c3 : w.cell? ⟨P, 3, none⟩ = some (.int .i64 A) := o.blk.cell (i := 3) rfl
  clear hc
  have t1 : decide (k < 0) = true := by simpa using hk
  clear hk
  go_enter Try.func113, Try.ntmps113
  go_upto_region 4 with (first | (go_at_call 108; refine h0.mono ?_; rintro e w1 ⟨rfl, hw⟩; have hw' := hw.symm; subst hw') | fail)
  go_still_tail 7, (by kernel_rfl)
  change wpList _ _ _ _ _ w.drew
  have hBe : Blk w.drew P _ 174 := o.blk.drew
  have ke : Keep [P] w w.drew := (Keep.refl _ _).drew
  generalize w.drew = w2 at hBe ke ⊢
  go_wp2_with (first
    | (go_at_call 109; refine (spoil_any P s.code s.place 1 A [.slice va L vc, .int .i64 A] 174 _ hBe).mono ?_; rintro e w3 ⟨rfl, hB1, hk1, hs1⟩)
    | fail)
  go_returns
  exact ⟨rfl, o.spoilt HC ke hk1 hB1⟩

set_option maxHeartbeats 4000000 in
set_option maxRecDepth 100000 in
theorem rtext_ok (P : Nat) (d : List UInt8) (s : RS) (va : Option Addr) (vc : Nat) (most : Int) (w : World) (h : RdCells w P d s va vc) (hc : s.code = 0) (hm : 0 ≤ most) (hm1 : most ≤ 9223372036854775807) :
    Calls Try.prog 113 #[.pointer (some ⟨P, 0, none⟩), .int .i64 most] w (Gives w P (P :: blks (.slice va d.length vc)) d (rText d s most)) := by
  obtain ⟨A, L, o⟩ := h.opened
  have h0 := goes_any P _ d s w ⟨va, vc, h, rfl⟩
  rw [hc] at h0
  have c2 : w.cell? ⟨P, 2, none⟩ = some (.slice va L vc) := o.blk.cell (i := 2) rfl
  have c3 : w.cell? ⟨P, 3, none⟩ = some (.int .i64 A) := o.blk.cell (i := 3) rfl
  obtain ⟨r, hr⟩ : ∃ r, numP (d.drop A) = r := ⟨_, rfl⟩
  have hok := numP_ok (d.drop A)
  rw [hr] at hok
  obtain ⟨v, n, c⟩ := r
  obtain ⟨t, ht⟩ : ∃ t, textC most ((L : Int) - A) (v, n, c) = t := ⟨_, rfl⟩
  have hres : rText d s most = if t = 0 then ((d.drop (A + n)).take v, ⟨0, s.place, A + n + v⟩) else ([], s.spoil t) := by
    rw [rText, if_pos hc, if_neg (by omega), o.hA.out, o.hL.out, hr, ht]
  have hnl : c = 0 → v ≤ 2147483647 ∧ n ≤ 5 ∧ A + n ≤ L := fun h => by
    have := hok.ok h
    have h1 := o.h1
    rw [List.length_drop, o.hL.out] at this; simp only at this; omega
  have hno : c ≠ 0 → v = 0 ∧ n = 0 := fun h => by have := hok.no h; simp only at this; omega
  have htt : t = if c = 0 then (if most < (v : Int) then 2 else if (L : Int) - A - n < (v : Int) then 10 else 0) else c := ht.symm
  have hnum : ∀ g off, va = some ⟨g, off, none⟩ → ∀ W, Keep [P] w W → Calls Try.prog 111 #[.slice (some ⟨g, off + A, none⟩) (L - A) (vc - A)] W fun e w' => e = .returned (.tuple #[.int .i64 v, .int .i64 n, .int .i64 c]) ∧ w' = W := fun g off e W k => by
    have := o.num e W k; rw [hr] at this; exact this
  have hnum0 : vc = A ∧ L = A → ∀ W, Calls Try.prog 111 #[.slice va 0 0] W fun e w' => e = .returned (.tuple #[.int .i64 v, .int .i64 n, .int .i64 c]) ∧ w' = W := fun e W => by
    have := o.num0 e W; rw [hr] at this; exact this
  have HN := Lib.hid hnum
  have HN0 := Lib.hid hnum0
  have HR := Lib.hid hres
  have HC := Lib.hid hc
  have HT := Lib.hid htt
  have g1 := o.h1
  have g2 := o.h2
  have g3 := o.h3
  have g4 := o.h4
  have hp := o.parts
  clear hnum hnum0 hres hc hr hok ht htt
  go_enter Try.func113, Try.ntmps113
  go_upto_region 6 with (first | (go_at_call 108; refine h0.mono ?_; rintro e w1 ⟨rfl, hw⟩; have hw' := hw.symm; subst hw') | fail)
  go_cut [5, 6, 7] (fun v5 v6 v7 wc => v5 = .int .i64 v ∧ v6 = .int .i64 n ∧ v7 = .int .i64 c ∧ Blk wc P #[.int .i64 s.code, .int .i64 s.place, .slice va L vc, .int .i64 A] 174 ∧ Keep [P] w wc)
  case first =>
    rcases hp with hp | ⟨p1, g, off, rfl⟩
    · have hq := HN0.out hp
      have HQ := Lib.hid hq
      obtain ⟨p2, p3⟩ := hp
      subst p3
      clear hq
      go_quiet ((go_at_call 111; refine Calls.quiet_of_same (HQ.out _)))
      go_wp2_with fail
      go_meet
      case rel => exact ⟨rfl, rfl, rfl, o.blk.drewN, (Keep.refl _ _).drewN⟩
    · have hq := HN.out g off rfl
      have HQ := Lib.hid hq
      clear hq
      go_quiet ((go_at_call 111; refine Calls.quiet_of_same (HQ.out _ ((Keep.refl _ _).drewN))))
      go_wp2_with fail
      go_meet
      case rel => exact ⟨rfl, rfl, rfl, o.blk.drewN, (Keep.refl _ _).drewN⟩
  case rest =>
    obtain ⟨rfl, rfl, rfl, hB, hk⟩ := hcut
    clear c2 c3 h0 HN HN0 hp hw
    have cB2 : wc.cell? ⟨P, 2, none⟩ = some (.slice va L vc) := hB.cell (i := 2) rfl
    have cB3 : wc.cell? ⟨P, 3, none⟩ = some (.int .i64 A) := hB.cell (i := 3) rfl
    have hn5 : n ≤ 5 := by
      by_cases h : c = 0
      · exact (hnl h).2.1
      · have := (hno h).2; omega
    have e1 : IntKind.i64.wrap ((L : Int) - A) = L - A := IntWalk.i64_in _ (by omega)
    have e2 : IntKind.i64.wrap ((L : Int) - A - n) = L - A - n := IntWalk.i64_in _ (by omega)
    by_cases hc0 : c = 0
    · subst hc0
      obtain ⟨n1, n2, n3⟩ := hnl rfl
      have ht := HT.out
      rw [if_pos rfl] at ht
      clear hnl hno HT
      by_cases h1 : most < (v : Int)
      · rw [if_pos h1] at ht
        subst ht
        have HR' := HR.out
        rw [if_neg (by decide)] at HR'
        have HQ := Lib.hid HR'
        clear HR' HR
        go_wp2_with fail
        go_quiet (fail)
        have hBd : Blk (wc.drewN nq) P #[.int .i64 s.code, .int .i64 s.place, .slice va L vc, .int .i64 A] 174 := hB.drewN
        have kd : Keep [P] w (wc.drewN nq) := hk.drewN
        generalize wc.drewN nq = wd at hBd kd ⊢
        clear cB2 cB3 hB hk
        have cB3 : wd.cell? ⟨P, 3, none⟩ = some (.int .i64 A) := hBd.cell (i := 3) rfl
        go_upto_region 13 with fail
        go_still_tail 8, (by kernel_rfl)
        change wpList _ _ _ _ _ wd.drew
        have hBe : Blk wd.drew P #[.int .i64 s.code, .int .i64 s.place, .slice va L vc, .int .i64 A] 174 := hBd.drew
        have ke : Keep [P] w wd.drew := kd.drew
        generalize wd.drew = w2 at hBe ke ⊢
        clear cB3 hBd kd
        go_wp2_with (first
          | (go_at_call 109; refine (spoil_any P s.code s.place 2 A [.slice va L vc, .int .i64 A] 174 _ hBe).mono ?_; rintro e w3 ⟨rfl, hB1, hk1, hs1⟩)
          | fail)
        go_returns
        rw [HQ.out]
        have hsp := o.spoilt HC ke hk1 hB1
        exact Gives.none ⟨va, vc, hsp.1, rfl⟩ hsp.2

      · rw [if_neg h1] at ht
        have t1 : decide (most < (v : Int)) = false := by simpa using h1
        by_cases h2 : (L : Int) - A - n < (v : Int)
        · rw [if_pos h2] at ht
          subst ht
          have t2 : decide ((L : Int) - A - n < (v : Int)) = true := by simpa using h2
          have HR' := HR.out
          rw [if_neg (by decide)] at HR'
          have HQ := Lib.hid HR'
          clear HR' HR h1 h2
          go_wp2_with fail
          go_quiet (fail)
          have hBd : Blk (wc.drewN nq) P #[.int .i64 s.code, .int .i64 s.place, .slice va L vc, .int .i64 A] 174 := hB.drewN
          have kd : Keep [P] w (wc.drewN nq) := hk.drewN
          generalize wc.drewN nq = wd at hBd kd ⊢
          clear cB2 cB3 hB hk
          have cB3 : wd.cell? ⟨P, 3, none⟩ = some (.int .i64 A) := hBd.cell (i := 3) rfl
          go_upto_region 13 with fail
          go_still_tail 8, (by kernel_rfl)
          change wpList _ _ _ _ _ wd.drew
          have hBe : Blk wd.drew P #[.int .i64 s.code, .int .i64 s.place, .slice va L vc, .int .i64 A] 174 := hBd.drew
          have ke : Keep [P] w wd.drew := kd.drew
          generalize wd.drew = w2 at hBe ke ⊢
          clear cB3 hBd kd
          go_wp2_with (first
            | (go_at_call 109; refine (spoil_any P s.code s.place 10 A [.slice va L vc, .int .i64 A] 174 _ hBe).mono ?_; rintro e w3 ⟨rfl, hB1, hk1, hs1⟩)
            | fail)
          go_returns
          rw [HQ.out]
          have hsp := o.spoilt HC ke hk1 hB1
          exact Gives.none ⟨va, vc, hsp.1, rfl⟩ hsp.2

        · rw [if_neg h2] at ht
          subst ht
          have t2 : decide ((L : Int) - A - n < (v : Int)) = false := by simpa using h2
          have hle : A + n + v ≤ L := by omega
          have HR' := HR.out
          rw [if_pos rfl] at HR'
          have HQ := Lib.hid HR'
          clear HR' HR h1 h2
          go_wp2_with fail
          go_quiet (fail)
          have hBd : Blk (wc.drewN nq) P #[.int .i64 s.code, .int .i64 s.place, .slice va L vc, .int .i64 A] 174 := hB.drewN
          have kd : Keep [P] w (wc.drewN nq) := hk.drewN
          generalize wc.drewN nq = wd at hBd kd ⊢
          clear cB2 cB3 hB hk
          have cB3 : wd.cell? ⟨P, 3, none⟩ = some (.int .i64 A) := hBd.cell (i := 3) rfl

          have fB3 := hBd.free (i := 3)
          have hbk : ∀ W', Keep [P] w W' → Blk W' P #[.int .i64 0, .int .i64 s.place, .slice va L vc, .int .i64 ((A + n : Nat) : Int)] 174 → RdCells W' P d ⟨0, s.place, A + n⟩ va vc := fun W' k hB => o.back.out W' ⟨0, s.place, A + n⟩ k hB n3
          obtain ⟨R, hR⟩ : ∃ R, (d.drop (A + n)).take v = R := ⟨_, rfl⟩
          have hRl : R.length = v := by rw [← hR, List.length_take, List.length_drop, o.hL.out]; omega
          have htake : ∀ W, RdCells W P d ⟨0, s.place, A + n⟩ va vc → Calls Try.prog 110 #[.pointer (some ⟨P, 0, none⟩), .int .i64 v] W fun e w' => ∃ a c, e = .returned (.slice a v c) ∧ (a = none → c = 0) ∧ Rd w' a (bs R) ∧ RdCells w' P d ⟨0, s.place, A + n + v⟩ va vc ∧ Keep [P] W w' := fun W hW => by
            have := take_some P d ⟨0, s.place, A + n⟩ va vc v W hW (by rw [o.hL.out]; exact hle)
            simp only [hR] at this
            exact this
          rw [hR] at HQ
          have HBK := Lib.hid hbk
          have HTK := Lib.hid htake
          have HRL := Lib.hid hRl
          clear hbk htake hR hRl
          go_upto_region 16 with fail
          have hB2 := hBd.set 3 (.int .i64 ((A : Int) + n))
          have k2 : Keep [P] w (wd.setCell ⟨P, 3, none⟩ (.int .i64 ((A : Int) + n))) := kd.set (Or.inl (by simp)) _
          generalize wd.setCell ⟨P, 3, none⟩ (.int .i64 ((A : Int) + n)) = w2 at hB2 k2 ⊢
          clear cB3 fB3 hBd kd
          have hB3 : Blk w2 P #[.int .i64 0, .int .i64 s.place, .slice va L vc, .int .i64 ((A + n : Nat) : Int)] 174 := by
            have := hB2
            rw [HC.out] at this
            rw [show ((A + n : Nat) : Int) = (A : Int) + n by omega]; exact this
          have hT := HTK.out w2 (HBK.out w2 k2 hB3)
          have HT2 := Lib.hid hT
          clear hT
          go_wp2_with (first
            | (go_at_call 110; refine HT2.out.mono ?_; rintro e w1 ⟨a, c, rfl, q1, q2, q3, q4⟩)
            | (at_builtin; go_must (refine wpList_appendN rfl (.const (.slice none 0 0)) (.tmp 85) 22 rfl 5 (.int .u8 0) 1 1 Try.underlying22 info5 rfl (by omega) (.slice none 0 0) 0 [] rfl (Sl.nil _ _ _) a v c (bs R) rfl (by rw [bs_length, HRL.out, Nat.mul_one]) q1 q2 (bs_one R) (by simp only [maxLen]; omega) (by omega) ?_; intro a1 c1 w4 hs1 hk1 hf1))
            | fail)
          go_returns
          rw [HQ.out]
          rw [Nat.zero_add] at hs1 hf1
          have k4 : Keep [P] w w1 := k2.trans q4 (by simp)
          refine ⟨a1, c1, by simp only; rw [HRL.out]; rfl, by simp only; rw [HRL.out]; exact hs1, by simp only; rw [HRL.out]; exact hf1.le k4.size, ⟨va, vc, q3.keep hk1 (by simp [blks, Value.ownBlock]), rfl⟩, k4.trans' hk1⟩
    · obtain ⟨rfl, rfl⟩ := hno hc0
      have ht := HT.out
      rw [if_neg hc0] at ht
      subst ht
      have HR' := HR.out
      rw [if_neg hc0] at HR'
      have HQ := Lib.hid HR'
      have t1 : (t == 0) = false := by simpa using hc0
      have t2 : (t != 0) = true := by simpa using hc0
      clear HR' HR hnl hno HT hc0
      go_wp2_with fail
      go_quiet (fail)
      have hBd : Blk (wc.drewN nq) P #[.int .i64 s.code, .int .i64 s.place, .slice va L vc, .int .i64 A] 174 := hB.drewN
      have kd : Keep [P] w (wc.drewN nq) := hk.drewN
      generalize wc.drewN nq = wd at hBd kd ⊢
      clear cB2 cB3 hB hk
      have cB3 : wd.cell? ⟨P, 3, none⟩ = some (.int .i64 A) := hBd.cell (i := 3) rfl
      go_upto_region 13 with fail
      go_still_tail 8, (by kernel_rfl)
      change wpList _ _ _ _ _ wd.drew
      have hBe : Blk wd.drew P #[.int .i64 s.code, .int .i64 s.place, .slice va L vc, .int .i64 A] 174 := hBd.drew
      have ke : Keep [P] w wd.drew := kd.drew
      generalize wd.drew = w2 at hBe ke ⊢
      clear cB3 hBd kd
      go_wp2_with (first
        | (go_at_call 109; refine (spoil_any P s.code s.place t A [.slice va L vc, .int .i64 A] 174 _ hBe).mono ?_; rintro e w3 ⟨rfl, hB1, hk1, hs1⟩)
        | fail)
      go_returns
      rw [HQ.out]
      have hsp := o.spoilt HC ke hk1 hB1
      exact Gives.none ⟨va, vc, hsp.1, rfl⟩ hsp.2

theorem rtext_any (P : Nat) (S : List Nat) (d : List UInt8) (s : RS) (n : Int) (w : World) (h : RdAt w P S d s) (hn : n ≤ 9223372036854775807) :
    Calls Try.prog 113 #[.pointer (some ⟨P, 0, none⟩), .int .i64 n] w (Gives w P S d (rText d s n)) := by
  by_cases hc : s.code = 0
  · obtain ⟨va, vc, h1, rfl⟩ := h
    by_cases h0 : n < 0
    · rw [rText, if_pos hc, if_pos h0]
      refine (rtext_arg P d s va vc n w h1 hc h0).mono ?_
      rintro e w' ⟨rfl, e2, e3⟩
      exact Gives.none ⟨va, vc, e2, rfl⟩ e3
    · exact rtext_ok P d s va vc n w h1 hc (by omega) hn
  · rw [rText, if_neg hc]
    refine (rtext_bad P S d s n w h hc).mono ?_
    rintro e w' ⟨rfl, rfl⟩
    exact Gives.none h (Keep.refl _ _)
end Go.Proofs.Ytpocegdlobnhaaa.Cod

/- CodeForm: the walk. -/
import Derived.Test.YtkhplfgehcljmaaAk
set_option linter.unusedVariables false
set_option linter.unusedSimpArgs false
namespace Go.Proofs.Ytkhplfgehcljmaa
open Go.RowKit

set_option maxHeartbeats 16000000 in
set_option maxRecDepth 100000 in
theorem codeForm_walk (a : Option Addr) (n ca : Nat) (xs : List UInt8) (b : Option Addr) (len cap : Nat) (cs : List Cl) (w : World) (hxs : InBytes w a n ca xs) (hx : InCalls w b len cap cs) :
    Calls Try.prog 10 #[.slice a n ca, .slice b len cap] w fun e w' => e = .returned (.bool true) ∧ Keep [] w w' := by
  have hlong := long_any b len cap cs w hx
  cases hb : longB cs with
  | true =>
    rw [hb] at hlong
    go_enter Try.func10, Try.ntmps10
    go_wp2_with (first | (go_at_call 19; refine hlong.mono ?_; rintro e w1 ⟨rfl, hw⟩; have hw' := hw.symm; subst hw') | fail)
    go_returns
    exact ⟨rfl, Keep.refl _ _⟩
  | false =>
    rw [hb] at hlong
    have hcl : len ≤ 200 ∧ total cs ≤ 200000 := by
      have := hx.hlen
      simp [longB] at hb; omega
    obtain ⟨hlen2, htot⟩ := hcl
    clear hb htot
    by_cases hn : 200000 < n
    · go_enter Try.func10, Try.ntmps10
      go_wp2_with (first | (go_at_call 19; refine hlong.mono ?_; rintro e w1 ⟨rfl, hw⟩; have hw' := hw.symm; subst hw') | fail)
      go_returns
      exact ⟨rfl, Keep.refl _ _⟩
    have hlen := hxs.hlen
    have HL := Lib.hid hlen
    have C2 := Lib.hid (read_any a n ca xs w hlen (fun h => hxs.hnil h) hxs.rd (by omega))
    clear hlen
    go_enter Try.func10, Try.ntmps10
    go_upto_region 3 with (first | (go_at_call 19; refine hlong.mono ?_; rintro e w1 ⟨rfl, hw⟩; have hw' := hw.symm; subst hw') | fail)
    clear hlong hw
    go_upto_region 4 with (first
      | (go_at_call 23; refine C2.out.mono ?_; rintro e w1 ⟨R, U, rfl, hR1, hfU, hk1⟩)
      | fail)
    have sU : Since w U := fun b hb => hfU.out b hb
    obtain ⟨P, hP⟩ : ∃ P, w1.heap.size = P := ⟨_, rfl⟩
    obtain ⟨w2, hw2⟩ : ∃ w2, w1.alloc (.cells #[.int .i64 0, .int .i64 0, .slice none 0 0] 40) = w2 := ⟨_, rfl⟩
    have hW2 : WrAt w2 P [P] false [] := by rw [← hw2, ← hP]; exact WrAt.new w1
    have k2 : Keep [] w1 w2 := by rw [← hw2]; exact (Keep.refl _ _).alloc _
    have kA2 := hk1.trans' k2
    have hR2 := hR1.keep k2 (by simp)
    have hDj : Dj [P] U := fun b hb hbU => by have := hR1.lt b hbU; simp at hb; omega
    have sP : Since w [P] := by intro b hb; simp at hb; have := hk1.size; omega
    clear C2 hR1 hfU hk1 k2
    go_upto_region 5 with fail
    clear hw2 hP
    go_wp2_with fail
    go_loopw [7] (fun v7 wr => ∃ (i A : Nat) (S : List Nat), i ≤ len ∧ v7 = .int .i64 (i : Nat) ∧ A ≤ n ∧ RdAt wr R U xs ⟨0, 0, A⟩ ∧ WrAt wr P S false (xs.take A) ∧ Dj S U ∧ Since w S ∧ Keep [] w wr) (fun v7 _ => len - (intOf v7).toNat)
    case atStart => exact ⟨0, 0, [P], by omega, rfl, by omega, hR2, by simpa using hW2, hDj, sP, kA2⟩
    case round =>
      clear hR2 hW2 hDj sP kA2
      obtain ⟨i, A, S, hi, rfl, hA, hR, hW, hDj, hS, hkx⟩ := hrel
      have hRw : w.heap.size ≤ R := sU R hR.self
      by_cases hlt : i < len
      · obtain ⟨c, b, off, ai, li, ci, hc, rfl, d0, d1, d2, d3, ⟨hwk, hwv, hwu⟩, hin⟩ := hx.at hlt
        have e0 := hkx.cell d0 (by simp)
        have e1 := hkx.cell d1 (by simp)
        have e2 := hkx.cell d2 (by simp)
        have e3 := hkx.cell d3 (by simp)
        have HC := Lib.hid hc
        clear hc
        go_upto_region 11 with (first
          | (refine wpList_store_last rfl 46 (.tmp 8) (.tmp 37) rfl _ _ (clA c ai li ci) rfl (by simp) rfl size46 rfl rfl ?_)
          | fail)
        clear e0 e1 e2 e3 d0 d1 d2 d3
        obtain ⟨B, hB⟩ : ∃ B, wr.heap.size = B := ⟨_, rfl⟩
        have hC := Blk.new wr (clA c ai li ci) 46
        have kC : Keep [] wr (wr.alloc (.cells (clA c ai li ci) 46)) := (Keep.refl _ _).alloc _
        rw [hB] at hC ⊢
        have hBU : ∀ b ∈ U, b ≠ B := fun b hb => by have := hR.lt b hb; omega
        have hBS : ∀ b ∈ S, b ≠ B := fun b hb => by have := hW.lt b hb; omega
        have hBR : B ≠ R := (hBU R hR.self).symm
        clear hB
        generalize wr.alloc (.cells (clA c ai li ci) 46) = w5 at hC kC ⊢
        have kA5 := hkx.trans' kC
        have hR5 := hR.keep kC (by simp)
        have hW5 := hW.keep kC (by simp)
        have hRS : ∀ b ∈ S, b ∉ [R] := fun b hb hbR => by simp only [List.mem_singleton] at hbR; subst hbR; exact hDj b hb hR.self
        have sR : Since w [R] := fun b hb => by simp only [List.mem_singleton] at hb; exact hb ▸ hRw
        clear kC hR hW hkx
        have c0 : w5.cell? ⟨B, 0, none⟩ = some (.int .i64 c.k) := hC.cell (i := 0) rfl
        have c1 : w5.cell? ⟨B, 1, none⟩ = some (.int .i64 c.v) := hC.cell (i := 1) rfl
        have c2 : w5.cell? ⟨B, 2, none⟩ = some (.int .i64 c.u) := hC.cell (i := 2) rfl
        have hAl : A ≤ xs.length := by rw [HL.out]; exact hA
        by_cases hout : c.k < 1 ∨ 4 < c.k
        · have q1 : (c.k == 1) = false := by simp; omega
          have q2 : (c.k == 2) = false := by simp; omega
          have q3 : (c.k == 3) = false := by simp; omega
          have q4 : (c.k == 4) = false := by simp; omega
          clear hout
          have C5 := rerr_any R U xs ⟨0, 0, A⟩ w5 hR5
          simp only at C5
          have C5 := Lib.hid C5
          go_upto_region 25 with (first
            | (go_at_call 27; refine C5.out.mono ?_; rintro e w8 ⟨rfl, hR8, hk8⟩)
            | fail)
          have kA8 := kA5.trans' hk8
          have hW8 := hW5.keep hk8 (by simp)
          have hC8 := hC.keep hk8 (by simp)
          clear C5 hR5 hW5 hk8 hC c0 c1 c2
          have c0 : w8.cell? ⟨B, 0, none⟩ = some (.int .i64 c.k) := hC8.cell (i := 0) rfl
          go_upto_region 34 with fail
          have hA2 := hAl
          have hDj8 := hDj
          have hS8 := hS
          have hlA : (xs.take A).length = A := by rw [List.length_take]; omega
          have C7 := data_ok P S (xs.take A) w8 hW8 (by rw [hlA]; have := HL.out; omega)
          rw [hlA] at C7
          have C7 := Lib.hid C7
          have HLA := Lib.hid hlA
          clear hlA
          go_upto_region 35 with (first
            | (go_at_call 25; refine C7.out.mono ?_; rintro e w9 ⟨a9, n9, c9, rfl, rfl, hs9, hf9, hk9⟩)
            | fail)
          have hR9 := hR8.keep hk9 (by simp)
          have hW9 := hW8.keep hk9 (by simp)
          have kA9 := kA8.trans' hk9
          obtain ⟨L, hL⟩ : ∃ L, rLeft xs ⟨0, 0, n9⟩ = L := ⟨_, rfl⟩
          have C8 := rleft_any R U xs ⟨0, 0, n9⟩ w9 hR9
          rw [hL] at C8
          have hLn : n9 + L = n := by rw [← hL, rLeft, if_pos rfl]; have := HL.out; simp only; omega
          have g4 : ((n9 : Int) + (L : Nat) != (n : Int)) = false := by simp; omega
          have hle9 : n9 ≤ n := by omega
          have hle9c : n9 ≤ ca := by have := hxs.hle; omega
          have z1 : IntKind.i64.wrap ((n9 : Int) + (L : Nat)) = (n9 : Int) + (L : Nat) := IntWalk.i64_in _ (by omega)
          have hb35 : ∀ W, Keep [] w9 W → Calls Try.prog 35 #[.slice a9 n9 c9, .slice a n9 ca] W fun e w' => e = .returned (.bool true) ∧ ∃ m, w' = W.drewN m := fun W k => by
            have h1 : Rd W a (bs (xs.take n9)) := by
              have := hxs.rd.keep (kA9.trans' k) (by simp)
              rcases this with h | ⟨b, off, h, h'⟩
              · refine Or.inl ?_
                have : xs = [] := by simpa [bs] using h
                rw [this]; simp [bs]
              · refine Or.inr ⟨b, off, h, fun j v hv => h' j v ?_⟩
                simp only [bs, List.map_take] at hv ⊢
                rw [List.getElem?_take] at hv
                split at hv
                · exact hv
                · cases hv
            have := bytes_any a9 a n9 n9 c9 ca (xs.take n9) (xs.take n9) W HLA.out HLA.out (by omega) (hs9.use.2.2.1.keep k (by simp)) h1
            simpa using this
          have C9 := Lib.hid hb35
          have C8 := Lib.hid C8
          clear hb35 C7 hR8 hW8 kA8 hs9 hf9 hk9 hL HLA
          go_wp2_with (first
            | (go_at_call 32; refine C8.out.mono ?_; rintro e w10 ⟨rfl, hR10, hk10⟩)
            | (go_at_call 35; refine (C9.out _ hk10).mono ?_; rintro e w11 ⟨rfl, m11, rfl⟩)
            | fail)
          exact ⟨⟨i + 1, n9, S, by omega, by go_num, hle9, hR10.keep ((Keep.refl [] _).drewN) (by simp), (hW9.keep hk10 (by simp)).keep ((Keep.refl [] _).drewN) (by simp), hDj, hS, (kA9.trans' hk10).drewN⟩, by simp [intOf]; omega⟩
        · have hkk : c.k = 1 ∨ c.k = 2 ∨ c.k = 3 ∨ c.k = 4 := by omega
          clear hout
          rcases hkk with hk | hk | hk | hk
          · rw [hk] at c0
            obtain ⟨v, s, hr⟩ : ∃ v s, rNumber xs ⟨0, 0, A⟩ = (v, s) := ⟨_, _, rfl⟩
            have hform := form_num (d := xs) (A := A) hAl
            have C4 := rnumber_any R U xs ⟨0, 0, A⟩ w5 hR5
            rw [hr] at hform C4
            simp only at hform C4
            have C4 := Lib.hid C4
            clear hr
            go_upto_region 22 with (first
              | (go_at_call 28; refine C4.out.mono ?_; rintro e w6 ⟨rfl, hR6, hk6⟩)
              | fail)
            have kA6 := sR.keep kA5 hk6
            have hW6 := hW5.keep hk6 hRS
            have hC6 := hC.keep hk6 (by simpa using hBR)
            clear C4 c0 c1 c2
            rcases hform with hsp | hfed
            · obtain ⟨hs0, p, hp, hpl⟩ := hsp
              have hl0 := (show Spoilt xs s from ⟨hs0, p, hp, hpl⟩).left
              have C5 := rerr_any R U xs s w6 hR6
              rw [hp] at C5
              have C5 := Lib.hid C5
              obtain ⟨cd, hcd⟩ : ∃ cd, s.code = cd := ⟨_, rfl⟩
              rw [hcd] at C5 hs0
              have g1 : (cd != 0) = true := by simpa using hs0
              have g2 : decide ((0 : Int) ≤ (p : Nat)) = true := by simp
              have hpn : p ≤ n := by have := HL.out; omega
              have hC7 : ∀ W, Keep [] w6 W → Calls Try.prog 32 #[.pointer (some ⟨R, 0, none⟩)] W fun e w' => e = .returned (.int .i64 0) ∧ Keep [] W w' := fun W k => by
                have := rleft_any R U xs s W (hR6.keep k (by simp))
                rw [hl0] at this
                exact this.mono (fun e w' ⟨h1, _, h3⟩ => ⟨h1, h3⟩)
              have C7 := Lib.hid hC7
              clear hC7 hcd hp hl0 hs0 hpl hR6 hW6
              go_upto_region 24 with (first
                | (go_at_call 27; refine C5.out.mono ?_; rintro e w7 ⟨rfl, hR7, hk7⟩)
                | fail)
              clear C5 hR7
              go_wp2_with (first
                | (go_at_call 32; refine (C7.out _ hk7).mono ?_; rintro e w8 ⟨rfl, hk8⟩)
                | (go_at_call 18; refine (known_any _).mono ?_; rintro e w9 ⟨rfl, hk9⟩)
                | fail)
              go_returns
              exact ⟨rfl, ((kA6.trans' hk7).trans' hk8).trans' hk9⟩
            · obtain ⟨hv1, A2, rfl, hA2, hfd⟩ := hfed
              have C5 := rerr_any R U xs ⟨0, 0, A2⟩ w6 hR6
              simp only at C5
              have C5 := Lib.hid C5
              go_upto_region 25 with (first
                | (go_at_call 27; refine C5.out.mono ?_; rintro e w7 ⟨rfl, hR7, hk7⟩)
                | fail)
              have kA7 := kA6.trans' hk7
              have hW7 := hW6.keep hk7 (by simp)
              have hC7 := hC6.keep hk7 (by simp)
              clear C5 hR6 hW6 hk7 hC6
              have c0 : w7.cell? ⟨B, 0, none⟩ = some (.int .i64 c.k) := hC7.cell (i := 0) rfl
              have c2 : w7.cell? ⟨B, 2, none⟩ = some (.int .i64 c.u) := hC7.cell (i := 2) rfl
              rw [hk] at c0
              have hn1 : isNum ((v : Nat) : Int) = true := by simp [isNum]; omega
              have C6 := number_any P S false (xs.take A) ((v : Nat) : Int) w7 hW7 (by simp [Lit.wf, IntKind.min, IntKind.max, IntKind.signed, IntKind.bits]; omega) (by rw [List.length_take]; have := HL.out; omega)
              rw [hn1] at C6
              simp only [Bool.not_true, Bool.or_false, Int.toNat_natCast, putD] at C6
              have C6 := Lib.hid C6
              clear hn1
              go_upto_region 34 with (first
                | (go_at_call 34; refine C6.out.mono ?_; rintro e w8 ⟨rfl, ⟨S8, hW8, hf8⟩, hk8⟩)
                | fail)
              simp only [Bool.false_eq_true, if_false] at hW8
              rw [hfd] at hW8
              have kA8 := hS.keep kA7 hk8
              have hR8 := hR7.keep hk8 (fun b hb hbS => hDj b hbS hb)
              have hDj8 := hDj.fr hf8 hR7.lt
              have hS8 := hS.fr hf8 kA7.size
              clear C6 hk8 hf8 hR7 hW7 kA7 c0 c2 hC7
              have hlA : (xs.take A2).length = A2 := by rw [List.length_take]; omega
              have C7 := data_ok P S8 (xs.take A2) w8 hW8 (by rw [hlA]; have := HL.out; omega)
              rw [hlA] at C7
              have C7 := Lib.hid C7
              have HLA := Lib.hid hlA
              clear hlA
              go_upto_region 35 with (first
                | (go_at_call 25; refine C7.out.mono ?_; rintro e w9 ⟨a9, n9, c9, rfl, rfl, hs9, hf9, hk9⟩)
                | fail)
              have hR9 := hR8.keep hk9 (by simp)
              have hW9 := hW8.keep hk9 (by simp)
              have kA9 := kA8.trans' hk9
              obtain ⟨L, hL⟩ : ∃ L, rLeft xs ⟨0, 0, n9⟩ = L := ⟨_, rfl⟩
              have C8 := rleft_any R U xs ⟨0, 0, n9⟩ w9 hR9
              rw [hL] at C8
              have hLn : n9 + L = n := by rw [← hL, rLeft, if_pos rfl]; have := HL.out; simp only; omega
              have g4 : ((n9 : Int) + (L : Nat) != (n : Int)) = false := by simp; omega
              have hle9 : n9 ≤ n := by omega
              have hle9c : n9 ≤ ca := by have := hxs.hle; omega
              have z1 : IntKind.i64.wrap ((n9 : Int) + (L : Nat)) = (n9 : Int) + (L : Nat) := IntWalk.i64_in _ (by omega)
              have hb35 : ∀ W, Keep [] w9 W → Calls Try.prog 35 #[.slice a9 n9 c9, .slice a n9 ca] W fun e w' => e = .returned (.bool true) ∧ ∃ m, w' = W.drewN m := fun W k => by
                have h1 : Rd W a (bs (xs.take n9)) := by
                  have := hxs.rd.keep (kA9.trans' k) (by simp)
                  rcases this with h | ⟨b, off, h, h'⟩
                  · refine Or.inl ?_
                    have : xs = [] := by simpa [bs] using h
                    rw [this]; simp [bs]
                  · refine Or.inr ⟨b, off, h, fun j v hv => h' j v ?_⟩
                    simp only [bs, List.map_take] at hv ⊢
                    rw [List.getElem?_take] at hv
                    split at hv
                    · exact hv
                    · cases hv
                have := bytes_any a9 a n9 n9 c9 ca (xs.take n9) (xs.take n9) W HLA.out HLA.out (by omega) (hs9.use.2.2.1.keep k (by simp)) h1
                simpa using this
              have C9 := Lib.hid hb35
              have C8 := Lib.hid C8
              clear hb35 C7 hR8 hW8 kA8 hs9 hf9 hk9 hL HLA
              go_wp2_with (first
                | (go_at_call 32; refine C8.out.mono ?_; rintro e w10 ⟨rfl, hR10, hk10⟩)
                | (go_at_call 35; refine (C9.out _ hk10).mono ?_; rintro e w11 ⟨rfl, m11, rfl⟩)
                | fail)
              exact ⟨⟨i + 1, n9, S8, by omega, by go_num, hle9, hR10.keep ((Keep.refl [] _).drewN) (by simp), (hW9.keep hk10 (by simp)).keep ((Keep.refl [] _).drewN) (by simp), hDj8, hS8, (kA9.trans' hk10).drewN⟩, by simp [intOf]; omega⟩
          · rw [hk] at c0
            obtain ⟨v, s, hr⟩ : ∃ v s, rFixed xs ⟨0, 0, A⟩ c.u = (v, s) := ⟨_, _, rfl⟩
            have hform := form_fix (d := xs) (A := A) (k := c.u) hAl
            have C4 := rfixed_any R U xs ⟨0, 0, A⟩ c.u w5 hR5
            rw [hr] at hform C4
            simp only at hform C4
            have C4 := Lib.hid C4
            clear hr
            go_upto_region 22 with (first
              | (go_at_call 29; refine C4.out.mono ?_; rintro e w6 ⟨rfl, hR6, hk6⟩)
              | fail)
            have kA6 := sR.keep kA5 hk6
            have hW6 := hW5.keep hk6 hRS
            have hC6 := hC.keep hk6 (by simpa using hBR)
            clear C4 c0 c1 c2
            rcases hform with hsp | hfed
            · obtain ⟨hs0, p, hp, hpl⟩ := hsp
              have hl0 := (show Spoilt xs s from ⟨hs0, p, hp, hpl⟩).left
              have C5 := rerr_any R U xs s w6 hR6
              rw [hp] at C5
              have C5 := Lib.hid C5
              obtain ⟨cd, hcd⟩ : ∃ cd, s.code = cd := ⟨_, rfl⟩
              rw [hcd] at C5 hs0
              have g1 : (cd != 0) = true := by simpa using hs0
              have g2 : decide ((0 : Int) ≤ (p : Nat)) = true := by simp
              have hpn : p ≤ n := by have := HL.out; omega
              have hC7 : ∀ W, Keep [] w6 W → Calls Try.prog 32 #[.pointer (some ⟨R, 0, none⟩)] W fun e w' => e = .returned (.int .i64 0) ∧ Keep [] W w' := fun W k => by
                have := rleft_any R U xs s W (hR6.keep k (by simp))
                rw [hl0] at this
                exact this.mono (fun e w' ⟨h1, _, h3⟩ => ⟨h1, h3⟩)
              have C7 := Lib.hid hC7
              clear hC7 hcd hp hl0 hs0 hpl hR6 hW6
              go_upto_region 24 with (first
                | (go_at_call 27; refine C5.out.mono ?_; rintro e w7 ⟨rfl, hR7, hk7⟩)
                | fail)
              clear C5 hR7
              go_wp2_with (first
                | (go_at_call 32; refine (C7.out _ hk7).mono ?_; rintro e w8 ⟨rfl, hk8⟩)
                | (go_at_call 18; refine (known_any _).mono ?_; rintro e w9 ⟨rfl, hk9⟩)
                | fail)
              go_returns
              exact ⟨rfl, ((kA6.trans' hk7).trans' hk8).trans' hk9⟩
            · obtain ⟨hv0, hv1, A2, rfl, hA2, hfd⟩ := hfed
              have C5 := rerr_any R U xs ⟨0, 0, A2⟩ w6 hR6
              simp only at C5
              have C5 := Lib.hid C5
              go_upto_region 25 with (first
                | (go_at_call 27; refine C5.out.mono ?_; rintro e w7 ⟨rfl, hR7, hk7⟩)
                | fail)
              have kA7 := kA6.trans' hk7
              have hW7 := hW6.keep hk7 (by simp)
              have hC7 := hC6.keep hk7 (by simp)
              clear C5 hR6 hW6 hk7 hC6
              have c0 : w7.cell? ⟨B, 0, none⟩ = some (.int .i64 c.k) := hC7.cell (i := 0) rfl
              have c2 : w7.cell? ⟨B, 2, none⟩ = some (.int .i64 c.u) := hC7.cell (i := 2) rfl
              rw [hk] at c0
              have C6 := fixed_any P S false (xs.take A) ((v : Nat) : Int) c.u w7 hW7 (by simp [Lit.wf, IntKind.min, IntKind.max, IntKind.signed, IntKind.bits]; omega) (by rw [List.length_take]; have := HL.out; omega)
              rw [hv0] at C6
              simp only [Bool.not_true, Bool.or_false, Int.toNat_natCast, putD] at C6
              have C6 := Lib.hid C6
              go_upto_region 34 with (first
                | (go_at_call 36; refine C6.out.mono ?_; rintro e w8 ⟨rfl, ⟨S8, hW8, hf8⟩, hk8⟩)
                | fail)
              simp only [Bool.false_eq_true, if_false] at hW8
              rw [hfd] at hW8
              have kA8 := hS.keep kA7 hk8
              have hR8 := hR7.keep hk8 (fun b hb hbS => hDj b hbS hb)
              have hDj8 := hDj.fr hf8 hR7.lt
              have hS8 := hS.fr hf8 kA7.size
              clear C6 hk8 hf8 hR7 hW7 kA7 c0 c2 hC7
              have hlA : (xs.take A2).length = A2 := by rw [List.length_take]; omega
              have C7 := data_ok P S8 (xs.take A2) w8 hW8 (by rw [hlA]; have := HL.out; omega)
              rw [hlA] at C7
              have C7 := Lib.hid C7
              have HLA := Lib.hid hlA
              clear hlA
              go_upto_region 35 with (first
                | (go_at_call 25; refine C7.out.mono ?_; rintro e w9 ⟨a9, n9, c9, rfl, rfl, hs9, hf9, hk9⟩)
                | fail)
              have hR9 := hR8.keep hk9 (by simp)
              have hW9 := hW8.keep hk9 (by simp)
              have kA9 := kA8.trans' hk9
              obtain ⟨L, hL⟩ : ∃ L, rLeft xs ⟨0, 0, n9⟩ = L := ⟨_, rfl⟩
              have C8 := rleft_any R U xs ⟨0, 0, n9⟩ w9 hR9
              rw [hL] at C8
              have hLn : n9 + L = n := by rw [← hL, rLeft, if_pos rfl]; have := HL.out; simp only; omega
              have g4 : ((n9 : Int) + (L : Nat) != (n : Int)) = false := by simp; omega
              have hle9 : n9 ≤ n := by omega
              have hle9c : n9 ≤ ca := by have := hxs.hle; omega
              have z1 : IntKind.i64.wrap ((n9 : Int) + (L : Nat)) = (n9 : Int) + (L : Nat) := IntWalk.i64_in _ (by omega)
              have hb35 : ∀ W, Keep [] w9 W → Calls Try.prog 35 #[.slice a9 n9 c9, .slice a n9 ca] W fun e w' => e = .returned (.bool true) ∧ ∃ m, w' = W.drewN m := fun W k => by
                have h1 : Rd W a (bs (xs.take n9)) := by
                  have := hxs.rd.keep (kA9.trans' k) (by simp)
                  rcases this with h | ⟨b, off, h, h'⟩
                  · refine Or.inl ?_
                    have : xs = [] := by simpa [bs] using h
                    rw [this]; simp [bs]
                  · refine Or.inr ⟨b, off, h, fun j v hv => h' j v ?_⟩
                    simp only [bs, List.map_take] at hv ⊢
                    rw [List.getElem?_take] at hv
                    split at hv
                    · exact hv
                    · cases hv
                have := bytes_any a9 a n9 n9 c9 ca (xs.take n9) (xs.take n9) W HLA.out HLA.out (by omega) (hs9.use.2.2.1.keep k (by simp)) h1
                simpa using this
              have C9 := Lib.hid hb35
              have C8 := Lib.hid C8
              clear hb35 C7 hR8 hW8 kA8 hs9 hf9 hk9 hL HLA
              go_wp2_with (first
                | (go_at_call 32; refine C8.out.mono ?_; rintro e w10 ⟨rfl, hR10, hk10⟩)
                | (go_at_call 35; refine (C9.out _ hk10).mono ?_; rintro e w11 ⟨rfl, m11, rfl⟩)
                | fail)
              exact ⟨⟨i + 1, n9, S8, by omega, by go_num, hle9, hR10.keep ((Keep.refl [] _).drewN) (by simp), (hW9.keep hk10 (by simp)).keep ((Keep.refl [] _).drewN) (by simp), hDj8, hS8, (kA9.trans' hk10).drewN⟩, by simp [intOf]; omega⟩
          · rw [hk] at c0
            have hv63 : c.v ≤ 9223372036854775807 := by
              have h := hwv
              simp [Lit.wf, IntKind.min, IntKind.max, IntKind.signed, IntKind.bits] at h; omega
            obtain ⟨v, s, hr⟩ : ∃ v s, rRaw xs ⟨0, 0, A⟩ c.v = (v, s) := ⟨_, _, rfl⟩
            have hform := form_raw (d := xs) (A := A) (n := c.v) hAl
            have C4 := rraw_any R U xs ⟨0, 0, A⟩ c.v w5 hR5 hv63
            rw [hr] at hform C4
            unfold Gives at C4
            simp only at hform C4
            obtain ⟨m6, hm6⟩ : ∃ m6, v.length = m6 := ⟨_, rfl⟩
            rw [hm6] at C4 hform
            have HM := Lib.hid hm6
            have C4 := Lib.hid C4
            clear hr hm6
            go_upto_region 22 with (first
              | (go_at_call 30; refine C4.out.mono ?_; rintro e w6 ⟨a6, c6, rfl, hs6, hf6, hR6, hk6⟩)
              | fail)
            have kA6 := sR.keep kA5 hk6
            have hW6 := hW5.keep hk6 hRS
            have hC6 := hC.keep hk6 (by simpa using hBR)
            clear C4 c0 c1 c2
            have hout6 : v ≠ [] → ablk a6 ∉ S := fun h hm => by
              have h1 := hs6.ablk (by simpa [bs] using h)
              have h2 := hf6.out _ h1
              have h3 := hW5.lt _ hm
              omega
            have hout7 := Lib.hid hout6
            clear hout6 hf6
            rcases hform with hsp | hfed
            · obtain ⟨hs0, p, hp, hpl⟩ := hsp
              have hl0 := (show Spoilt xs s from ⟨hs0, p, hp, hpl⟩).left
              have C5 := rerr_any R U xs s w6 hR6
              rw [hp] at C5
              have C5 := Lib.hid C5
              obtain ⟨cd, hcd⟩ : ∃ cd, s.code = cd := ⟨_, rfl⟩
              rw [hcd] at C5 hs0
              have g1 : (cd != 0) = true := by simpa using hs0
              have g2 : decide ((0 : Int) ≤ (p : Nat)) = true := by simp
              have hpn : p ≤ n := by have := HL.out; omega
              have hC7 : ∀ W, Keep [] w6 W → Calls Try.prog 32 #[.pointer (some ⟨R, 0, none⟩)] W fun e w' => e = .returned (.int .i64 0) ∧ Keep [] W w' := fun W k => by
                have := rleft_any R U xs s W (hR6.keep k (by simp))
                rw [hl0] at this
                exact this.mono (fun e w' ⟨h1, _, h3⟩ => ⟨h1, h3⟩)
              have C7 := Lib.hid hC7
              clear hC7 hcd hp hl0 hs0 hpl hR6 hW6
              go_upto_region 24 with (first
                | (go_at_call 27; refine C5.out.mono ?_; rintro e w7 ⟨rfl, hR7, hk7⟩)
                | fail)
              clear C5 hR7
              go_wp2_with (first
                | (go_at_call 32; refine (C7.out _ hk7).mono ?_; rintro e w8 ⟨rfl, hk8⟩)
                | (go_at_call 18; refine (known_any _).mono ?_; rintro e w9 ⟨rfl, hk9⟩)
                | fail)
              go_returns
              exact ⟨rfl, ((kA6.trans' hk7).trans' hk8).trans' hk9⟩
            · obtain ⟨hv1, A2, rfl, hA2, hfd⟩ := hfed
              have C5 := rerr_any R U xs ⟨0, 0, A2⟩ w6 hR6
              simp only at C5
              have C5 := Lib.hid C5
              go_upto_region 25 with (first
                | (go_at_call 27; refine C5.out.mono ?_; rintro e w7 ⟨rfl, hR7, hk7⟩)
                | fail)
              have kA7 := kA6.trans' hk7
              have hW7 := hW6.keep hk7 (by simp)
              have hC7 := hC6.keep hk7 (by simp)
              have hs7 := hs6.keep hk7 (by simp)
              have hlt7 := Lib.hid (fun (h : v ≠ []) => hs7.lt _ (hs7.ablk (by simpa [bs] using h)))
              clear C5 hR6 hW6 hk7 hC6 hs6
              have c0 : w7.cell? ⟨B, 0, none⟩ = some (.int .i64 c.k) := hC7.cell (i := 0) rfl
              have c2 : w7.cell? ⟨B, 2, none⟩ = some (.int .i64 c.u) := hC7.cell (i := 2) rfl
              rw [hk] at c0
              have C6 := raw_any P S false (xs.take A) v a6 m6 c6 w7 hW7 HM.out hs7.use.2.1 hs7.use.2.2.1 (fun h => fun e => hout7.out h (e ▸ hW7.self)) (by rw [List.length_take]; have := HL.out; omega)
              simp only [putD] at C6
              have C6 := Lib.hid C6
              go_upto_region 34 with (first
                | (go_at_call 37; refine C6.out.mono ?_; rintro e w8 ⟨rfl, ⟨S8, hW8, hf8⟩, hk8⟩)
                | fail)
              simp only [Bool.false_eq_true, if_false] at hW8
              rw [hfd] at hW8
              have kA8 := hS.keep kA7 hk8
              have hR8 := hR7.keep hk8 (fun b hb hbS => hDj b hbS hb)
              have hDj8 := hDj.fr hf8 hR7.lt
              have hS8 := hS.fr hf8 kA7.size
              clear C6 hk8 hf8 hR7 hW7 kA7 c0 c2 hC7
              have hlA : (xs.take A2).length = A2 := by rw [List.length_take]; omega
              have C7 := data_ok P S8 (xs.take A2) w8 hW8 (by rw [hlA]; have := HL.out; omega)
              rw [hlA] at C7
              have C7 := Lib.hid C7
              have HLA := Lib.hid hlA
              clear hlA
              go_upto_region 35 with (first
                | (go_at_call 25; refine C7.out.mono ?_; rintro e w9 ⟨a9, n9, c9, rfl, rfl, hs9, hf9, hk9⟩)
                | fail)
              have hR9 := hR8.keep hk9 (by simp)
              have hW9 := hW8.keep hk9 (by simp)
              have kA9 := kA8.trans' hk9
              obtain ⟨L, hL⟩ : ∃ L, rLeft xs ⟨0, 0, n9⟩ = L := ⟨_, rfl⟩
              have C8 := rleft_any R U xs ⟨0, 0, n9⟩ w9 hR9
              rw [hL] at C8
              have hLn : n9 + L = n := by rw [← hL, rLeft, if_pos rfl]; have := HL.out; simp only; omega
              have g4 : ((n9 : Int) + (L : Nat) != (n : Int)) = false := by simp; omega
              have hle9 : n9 ≤ n := by omega
              have hle9c : n9 ≤ ca := by have := hxs.hle; omega
              have z1 : IntKind.i64.wrap ((n9 : Int) + (L : Nat)) = (n9 : Int) + (L : Nat) := IntWalk.i64_in _ (by omega)
              have hb35 : ∀ W, Keep [] w9 W → Calls Try.prog 35 #[.slice a9 n9 c9, .slice a n9 ca] W fun e w' => e = .returned (.bool true) ∧ ∃ m, w' = W.drewN m := fun W k => by
                have h1 : Rd W a (bs (xs.take n9)) := by
                  have := hxs.rd.keep (kA9.trans' k) (by simp)
                  rcases this with h | ⟨b, off, h, h'⟩
                  · refine Or.inl ?_
                    have : xs = [] := by simpa [bs] using h
                    rw [this]; simp [bs]
                  · refine Or.inr ⟨b, off, h, fun j v hv => h' j v ?_⟩
                    simp only [bs, List.map_take] at hv ⊢
                    rw [List.getElem?_take] at hv
                    split at hv
                    · exact hv
                    · cases hv
                have := bytes_any a9 a n9 n9 c9 ca (xs.take n9) (xs.take n9) W HLA.out HLA.out (by omega) (hs9.use.2.2.1.keep k (by simp)) h1
                simpa using this
              have C9 := Lib.hid hb35
              have C8 := Lib.hid C8
              clear hb35 C7 hR8 hW8 kA8 hs9 hf9 hk9 hL HLA
              go_wp2_with (first
                | (go_at_call 32; refine C8.out.mono ?_; rintro e w10 ⟨rfl, hR10, hk10⟩)
                | (go_at_call 35; refine (C9.out _ hk10).mono ?_; rintro e w11 ⟨rfl, m11, rfl⟩)
                | fail)
              exact ⟨⟨i + 1, n9, S8, by omega, by go_num, hle9, hR10.keep ((Keep.refl [] _).drewN) (by simp), (hW9.keep hk10 (by simp)).keep ((Keep.refl [] _).drewN) (by simp), hDj8, hS8, (kA9.trans' hk10).drewN⟩, by simp [intOf]; omega⟩
          · rw [hk] at c0
            have hv63 : c.v ≤ 9223372036854775807 := by
              have h := hwv
              simp [Lit.wf, IntKind.min, IntKind.max, IntKind.signed, IntKind.bits] at h; omega
            obtain ⟨v, s, hr⟩ : ∃ v s, rText xs ⟨0, 0, A⟩ c.v = (v, s) := ⟨_, _, rfl⟩
            have hform := form_text (d := xs) (A := A) (n := c.v) hAl
            have C4 := rtext_any R U xs ⟨0, 0, A⟩ c.v w5 hR5 hv63
            rw [hr] at hform C4
            unfold Gives at C4
            simp only at hform C4
            obtain ⟨m6, hm6⟩ : ∃ m6, v.length = m6 := ⟨_, rfl⟩
            rw [hm6] at C4 hform
            have HM := Lib.hid hm6
            have C4 := Lib.hid C4
            clear hr hm6
            go_upto_region 22 with (first
              | (go_at_call 31; refine C4.out.mono ?_; rintro e w6 ⟨a6, c6, rfl, hs6, hf6, hR6, hk6⟩)
              | fail)
            have kA6 := sR.keep kA5 hk6
            have hW6 := hW5.keep hk6 hRS
            have hC6 := hC.keep hk6 (by simpa using hBR)
            clear C4 c0 c1 c2
            have hout6 : v ≠ [] → ablk a6 ∉ S := fun h hm => by
              have h1 := hs6.ablk (by simpa [bs] using h)
              have h2 := hf6.out _ h1
              have h3 := hW5.lt _ hm
              omega
            have hout7 := Lib.hid hout6
            clear hout6 hf6
            rcases hform with hsp | hfed
            · obtain ⟨hs0, p, hp, hpl⟩ := hsp
              have hl0 := (show Spoilt xs s from ⟨hs0, p, hp, hpl⟩).left
              have C5 := rerr_any R U xs s w6 hR6
              rw [hp] at C5
              have C5 := Lib.hid C5
              obtain ⟨cd, hcd⟩ : ∃ cd, s.code = cd := ⟨_, rfl⟩
              rw [hcd] at C5 hs0
              have g1 : (cd != 0) = true := by simpa using hs0
              have g2 : decide ((0 : Int) ≤ (p : Nat)) = true := by simp
              have hpn : p ≤ n := by have := HL.out; omega
              have hC7 : ∀ W, Keep [] w6 W → Calls Try.prog 32 #[.pointer (some ⟨R, 0, none⟩)] W fun e w' => e = .returned (.int .i64 0) ∧ Keep [] W w' := fun W k => by
                have := rleft_any R U xs s W (hR6.keep k (by simp))
                rw [hl0] at this
                exact this.mono (fun e w' ⟨h1, _, h3⟩ => ⟨h1, h3⟩)
              have C7 := Lib.hid hC7
              clear hC7 hcd hp hl0 hs0 hpl hR6 hW6
              go_upto_region 24 with (first
                | (go_at_call 27; refine C5.out.mono ?_; rintro e w7 ⟨rfl, hR7, hk7⟩)
                | fail)
              clear C5 hR7
              go_wp2_with (first
                | (go_at_call 32; refine (C7.out _ hk7).mono ?_; rintro e w8 ⟨rfl, hk8⟩)
                | (go_at_call 18; refine (known_any _).mono ?_; rintro e w9 ⟨rfl, hk9⟩)
                | fail)
              go_returns
              exact ⟨rfl, ((kA6.trans' hk7).trans' hk8).trans' hk9⟩
            · obtain ⟨hv1, A2, rfl, hA2, hfd⟩ := hfed
              have C5 := rerr_any R U xs ⟨0, 0, A2⟩ w6 hR6
              simp only at C5
              have C5 := Lib.hid C5
              go_upto_region 25 with (first
                | (go_at_call 27; refine C5.out.mono ?_; rintro e w7 ⟨rfl, hR7, hk7⟩)
                | fail)
              have kA7 := kA6.trans' hk7
              have hW7 := hW6.keep hk7 (by simp)
              have hC7 := hC6.keep hk7 (by simp)
              have hs7 := hs6.keep hk7 (by simp)
              have hlt7 := Lib.hid (fun (h : v ≠ []) => hs7.lt _ (hs7.ablk (by simpa [bs] using h)))
              clear C5 hR6 hW6 hk7 hC6 hs6
              have c0 : w7.cell? ⟨B, 0, none⟩ = some (.int .i64 c.k) := hC7.cell (i := 0) rfl
              have c2 : w7.cell? ⟨B, 2, none⟩ = some (.int .i64 c.u) := hC7.cell (i := 2) rfl
              rw [hk] at c0
              have C6 := text_any P S false (xs.take A) v a6 m6 c6 w7 hW7 HM.out hs7.use.2.1 hs7.use.2.2.1 hout7.out (by rw [List.length_take]; have := HL.out; omega) (by have := HL.out; omega) hlt7.out
              simp only [putD] at C6
              have C6 := Lib.hid C6
              go_upto_region 34 with (first
                | (go_at_call 38; refine C6.out.mono ?_; rintro e w8 ⟨rfl, ⟨S8, hW8, hf8⟩, hk8⟩)
                | fail)
              simp only [Bool.false_eq_true, if_false] at hW8
              rw [hfd] at hW8
              have kA8 := hS.keep kA7 hk8
              have hR8 := hR7.keep hk8 (fun b hb hbS => hDj b hbS hb)
              have hDj8 := hDj.fr hf8 hR7.lt
              have hS8 := hS.fr hf8 kA7.size
              clear C6 hk8 hf8 hR7 hW7 kA7 c0 c2 hC7
              have hlA : (xs.take A2).length = A2 := by rw [List.length_take]; omega
              have C7 := data_ok P S8 (xs.take A2) w8 hW8 (by rw [hlA]; have := HL.out; omega)
              rw [hlA] at C7
              have C7 := Lib.hid C7
              have HLA := Lib.hid hlA
              clear hlA
              go_upto_region 35 with (first
                | (go_at_call 25; refine C7.out.mono ?_; rintro e w9 ⟨a9, n9, c9, rfl, rfl, hs9, hf9, hk9⟩)
                | fail)
              have hR9 := hR8.keep hk9 (by simp)
              have hW9 := hW8.keep hk9 (by simp)
              have kA9 := kA8.trans' hk9
              obtain ⟨L, hL⟩ : ∃ L, rLeft xs ⟨0, 0, n9⟩ = L := ⟨_, rfl⟩
              have C8 := rleft_any R U xs ⟨0, 0, n9⟩ w9 hR9
              rw [hL] at C8
              have hLn : n9 + L = n := by rw [← hL, rLeft, if_pos rfl]; have := HL.out; simp only; omega
              have g4 : ((n9 : Int) + (L : Nat) != (n : Int)) = false := by simp; omega
              have hle9 : n9 ≤ n := by omega
              have hle9c : n9 ≤ ca := by have := hxs.hle; omega
              have z1 : IntKind.i64.wrap ((n9 : Int) + (L : Nat)) = (n9 : Int) + (L : Nat) := IntWalk.i64_in _ (by omega)
              have hb35 : ∀ W, Keep [] w9 W → Calls Try.prog 35 #[.slice a9 n9 c9, .slice a n9 ca] W fun e w' => e = .returned (.bool true) ∧ ∃ m, w' = W.drewN m := fun W k => by
                have h1 : Rd W a (bs (xs.take n9)) := by
                  have := hxs.rd.keep (kA9.trans' k) (by simp)
                  rcases this with h | ⟨b, off, h, h'⟩
                  · refine Or.inl ?_
                    have : xs = [] := by simpa [bs] using h
                    rw [this]; simp [bs]
                  · refine Or.inr ⟨b, off, h, fun j v hv => h' j v ?_⟩
                    simp only [bs, List.map_take] at hv ⊢
                    rw [List.getElem?_take] at hv
                    split at hv
                    · exact hv
                    · cases hv
                have := bytes_any a9 a n9 n9 c9 ca (xs.take n9) (xs.take n9) W HLA.out HLA.out (by omega) (hs9.use.2.2.1.keep k (by simp)) h1
                simpa using this
              have C9 := Lib.hid hb35
              have C8 := Lib.hid C8
              clear hb35 C7 hR8 hW8 kA8 hs9 hf9 hk9 hL HLA
              go_wp2_with (first
                | (go_at_call 32; refine C8.out.mono ?_; rintro e w10 ⟨rfl, hR10, hk10⟩)
                | (go_at_call 35; refine (C9.out _ hk10).mono ?_; rintro e w11 ⟨rfl, m11, rfl⟩)
                | fail)
              exact ⟨⟨i + 1, n9, S8, by omega, by go_num, hle9, hR10.keep ((Keep.refl [] _).drewN) (by simp), (hW9.keep hk10 (by simp)).keep ((Keep.refl [] _).drewN) (by simp), hDj8, hS8, (kA9.trans' hk10).drewN⟩, by simp [intOf]; omega⟩
      · go_wp2_with (first
          | (go_at_call 18; refine (known_any _).mono ?_; rintro e w7 ⟨rfl, hk7⟩)
          | fail)
        go_returns
        exact ⟨rfl, hkx.trans' hk7⟩
end Go.Proofs.Ytkhplfgehcljmaa

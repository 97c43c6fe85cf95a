/- CodeBack: the walk. -/
import Derived.Test.YtkhplfgehcljmaaAf
set_option linter.unusedVariables false
set_option linter.unusedSimpArgs false
namespace Go.Proofs.Ytkhplfgehcljmaa
open Go.RowKit

set_option maxHeartbeats 16000000 in
set_option maxRecDepth 100000 in
theorem codeBack_walk (a : Option Addr) (len cap : Nat) (cs : List Cl) (more : Int) (w : World) (hx : InCalls w a len cap cs) (hmw : (Lit.int .i64 more).wf = true) :
    Calls Try.prog 9 #[.slice a len cap, .int .i64 more] w fun e w' => e = .returned (.bool true) ∧ Keep [] w w' := by
  have hlong := long_any a len cap cs w hx
  cases hb : longB cs with
  | true =>
    rw [hb] at hlong
    go_enter Try.func9, Try.ntmps9
    go_wp2_with (first | (go_at_call 19; refine hlong.mono ?_; rintro e w1 ⟨rfl, hw⟩; have hw' := hw.symm; subst hw') | fail)
    go_returns
    exact ⟨rfl, Keep.refl _ _⟩
  | false =>
    rw [hb] at hlong
    have hcl : len ≤ 200 ∧ total cs ≤ 200000 := by
      have := hx.hlen
      simp [longB] at hb; omega
    obtain ⟨hlen2, htot⟩ := hcl
    clear hb
    by_cases hm0 : more < 0
    · go_enter Try.func9, Try.ntmps9
      go_wp2_with (first | (go_at_call 19; refine hlong.mono ?_; rintro e w1 ⟨rfl, hw⟩; have hw' := hw.symm; subst hw') | fail)
      go_returns
      exact ⟨rfl, Keep.refl _ _⟩
    · by_cases hm1 : 1073741823 < more
      · go_enter Try.func9, Try.ntmps9
        go_wp2_with (first | (go_at_call 19; refine hlong.mono ?_; rintro e w1 ⟨rfl, hw⟩; have hw' := hw.symm; subst hw') | fail)
        go_returns
        exact ⟨rfl, Keep.refl _ _⟩
      · obtain ⟨P, hP⟩ : ∃ P, w.heap.size = P := ⟨_, rfl⟩
        obtain ⟨w1, hw1⟩ : ∃ w1, w.alloc (.cells #[.int .i64 0, .int .i64 0, .slice none 0 0] 40) = w1 := ⟨_, rfl⟩
        have hW1 : WrAt w1 P [P] false [] := by rw [← hw1, ← hP]; exact WrAt.new w
        have k1 : Keep [] w w1 := by rw [← hw1]; exact (Keep.refl _ _).alloc _
        have sP : Since w [P] := by intro b hb; simp at hb; omega
        go_enter Try.func9, Try.ntmps9
        go_upto_region 4 with (first | (go_at_call 19; refine hlong.mono ?_; rintro e w9 ⟨rfl, hw⟩; have hw' := hw.symm; subst hw') | fail)
        clear hw1 hP hlong hw
        go_wp2_with fail
        go_loopw [6, 7] (fun v6 v7 wr => ∃ (i n : Nat) (S : List Nat), i ≤ len ∧ v7 = .int .i64 (i : Nat) ∧ v6 = .int .i64 (n : Nat) ∧ Hid ((allB (cs.take i)).length = n) ∧ WrAt wr P S false (allB (cs.take i)) ∧ Since w S ∧ Keep [] w wr ∧ n ≤ total (cs.take i) + 5 * i ∧ Hid (∀ c ∈ cs.take i, fitB c = true ∨ (c.k < 1 ∨ 4 < c.k))) (fun _ v7 _ => len - (intOf v7).toNat)
        case atStart => exact ⟨0, 0, [P], by omega, rfl, rfl, Lib.hid rfl, hW1, sP, k1, by omega, Lib.hid (by simp)⟩
        case round =>
          clear hW1 sP k1
          obtain ⟨i, n, S, hi, rfl, rfl, HN, hW, hS, hkw, hn, HF⟩ := hrel
          by_cases hlt : i < len
          · obtain ⟨c, b, off, ai, li, ci, hc, rfl, d0, d1, d2, d3, ⟨hwk, hwv, hwu⟩, hin⟩ := hx.at hlt
            have e0 := hkw.cell d0 (by simp)
            have e1 := hkw.cell d1 (by simp)
            have e2 := hkw.cell d2 (by simp)
            have e3 := hkw.cell d3 (by simp)
            have hli := hin.hlen
            have ht1 := total_take hc
            have ht2 := total_le cs (i + 1)
            have hbn : n ≤ 201000 := by omega
            have hlb : li ≤ 200000 := by omega
            have HC := Lib.hid hc
            have HT := Lib.hid ht1
            have HLI := Lib.hid hli
            clear hc hli
            go_upto_region 9 with (first
              | (refine wpList_store_last rfl 46 (.tmp 8) (.tmp 43) rfl _ _ (clA c ai li ci) rfl (by simp) rfl size46 rfl rfl ?_)
              | fail)
            clear e0 e1 e2 e3 d0 d1 d2 d3
            obtain ⟨B, hB⟩ : ∃ B, wr.heap.size = B := ⟨_, rfl⟩
            have hC := Blk.new wr (clA c ai li ci) 46
            have kC : Keep [] wr (wr.alloc (.cells (clA c ai li ci) 46)) := (Keep.refl _ _).alloc _
            rw [hB] at hC ⊢
            have hBS : B ∉ S := fun h => by have := hW.lt B h; omega
            clear hB
            generalize wr.alloc (.cells (clA c ai li ci) 46) = w2 at hC kC ⊢
            have kA2 := hkw.trans' kC
            have hW2 := hW.keep kC (by simp)
            clear kC hW hkw
            have c0 : w2.cell? ⟨B, 0, none⟩ = some (.int .i64 c.k) := hC.cell (i := 0) rfl
            have c1 : w2.cell? ⟨B, 1, none⟩ = some (.int .i64 c.v) := hC.cell (i := 1) rfl
            have c2 : w2.cell? ⟨B, 2, none⟩ = some (.int .i64 c.u) := hC.cell (i := 2) rfl
            have c3 : w2.cell? ⟨B, 3, none⟩ = some (.slice ai li ci) := hC.cell (i := 3) rfl
            have C1 := Lib.hid (fit_any c ai li ci w2)
            cases hf : fitB c with
            | false =>
              rw [hf] at C1
              by_cases hout : c.k < 1 ∨ 4 < c.k
              · have hs : allB (cs.take (i + 1)) = allB (cs.take i) := by rw [allB_take HC.out, cBytes_out hout, List.append_nil]
                have t1 : decide (c.k < 1) = true ∨ (decide (c.k < 1) = false ∧ decide (4 < c.k) = true) := by
                  rcases hout with h | h
                  · exact Or.inl (by simpa using h)
                  · by_cases h2 : c.k < 1
                    · exact Or.inl (by simpa using h2)
                    · exact Or.inr ⟨by simpa using h2, by simpa using h⟩
                have HS := Lib.hid hs
                have HO := Lib.hid hout
                clear hs hout
                have fin : ∀ W, Keep [] w2 W → (∃ (j m : Nat) (S' : List Nat), j ≤ len ∧ (Value.int .i64 ((i : Int) + 1)) = .int .i64 (j : Nat) ∧ (Value.int .i64 (n : Nat)) = .int .i64 (m : Nat) ∧ Hid ((allB (cs.take j)).length = m) ∧ WrAt W P S' false (allB (cs.take j)) ∧ Since w S' ∧ Keep [] w W ∧ m ≤ total (cs.take j) + 5 * j ∧ Hid (∀ c ∈ cs.take j, fitB c = true ∨ (c.k < 1 ∨ 4 < c.k))) := fun W k =>
                  ⟨i + 1, n, S, by omega, by go_num, rfl, Lib.hid (by rw [HS.out]; exact HN.out), by rw [HS.out]; exact hW2.keep k (by simp), hS, kA2.trans' k, by have := HT.out; omega, Lib.hid (fun c' hc' => by
                    rw [List.take_add_one, HC.out] at hc'
                    rcases List.mem_append.1 hc' with h | h
                    · exact HF.out c' h
                    · simp at h; subst h; exact Or.inr HO.out)⟩
                have FIN := Lib.hid fin
                clear fin
                rcases t1 with t | ⟨t, t'⟩
                all_goals
                  go_upto_region 10 with (first | (go_at_call 33; refine C1.out.mono ?_; rintro e w3 ⟨rfl, hk3⟩; have hC3 := hC.keep hk3 (by simp)) | fail)
                  clear c0 c1 c2 c3
                  have c0 : w3.cell? ⟨B, 0, none⟩ = some (.int .i64 c.k) := hC3.cell (i := 0) rfl
                  go_wp2_with fail
                  exact ⟨FIN.out _ hk3, by simp [intOf]; omega⟩
              · have hbad := cBad_no hf (by omega) (by omega)
                have t1 : decide (c.k < 1) = false := by simp; omega
                have t2 : decide (4 < c.k) = false := by simp; omega
                have HB := Lib.hid hbad
                clear hbad hout
                go_upto_region 11 with (first | (go_at_call 33; refine C1.out.mono ?_; rintro e w3 ⟨rfl, hk3⟩; have hC3 := hC.keep hk3 (by simp); have z0 : w3.cell? ⟨B, 0, none⟩ = some (.int .i64 c.k) := hC3.cell (i := 0) rfl) | fail)
                clear c0 c1 c2 c3 C1 t1 t2
                have kA3 := kA2.trans' hk3
                have hW3 := hW2.keep hk3 (by simp)
                obtain ⟨D, hD⟩ : ∃ D, w3.heap.size = D := ⟨_, rfl⟩
                obtain ⟨w4, hw4⟩ : ∃ w4, w3.alloc (.cells #[.slice none 0 0] 26) = w4 := ⟨_, rfl⟩
                have hD4 : DkAt w4 D [D, D] := by rw [← hw4, ← hD]; exact DkAt.new w3
                have k4 : Keep [] w3 w4 := by rw [← hw4]; exact (Keep.refl _ _).alloc _
                have kA4 := kA3.trans' k4
                have hW4 := hW3.keep k4 (by simp)
                have hC4 := hC3.keep k4 (by simp)
                have sD : Since w [D, D] := by intro b hb; simp at hb; have := kA3.size; omega
                have djD : Dj S [D, D] := fun b hb h => by have := hW3.lt b hb; simp at h; omega
                have C2 := write_any P S D [D, D] false (allB (cs.take i)) c ai li ci w4 hW4 hD4 (hin.keep kA4 (by simp)) djD (hin.since hS) (hin.since sD) hwv (by rw [HN.out]; omega) (by omega)
                rw [HB.out] at C2
                have C2 := Lib.hid C2
                have c0 : w4.cell? ⟨B, 0, none⟩ = some (.int .i64 c.k) := hC4.cell (i := 0) rfl
                have c1 : w4.cell? ⟨B, 1, none⟩ = some (.int .i64 c.v) := hC4.cell (i := 1) rfl
                have c2 : w4.cell? ⟨B, 2, none⟩ = some (.int .i64 c.u) := hC4.cell (i := 2) rfl
                have c3 : w4.cell? ⟨B, 3, none⟩ = some (.slice ai li ci) := hC4.cell (i := 3) rfl
                have hk3c : w3.cell? ⟨B, 0, none⟩ = some (.int .i64 c.k) := hC3.cell (i := 0) rfl
                have hk3d : w3.cell? ⟨B, 1, none⟩ = some (.int .i64 c.v) := hC3.cell (i := 1) rfl
                have hk3e : w3.cell? ⟨B, 2, none⟩ = some (.int .i64 c.u) := hC3.cell (i := 2) rfl
                have hk3f : w3.cell? ⟨B, 3, none⟩ = some (.slice ai li ci) := hC3.cell (i := 3) rfl
                go_upto_region 12 with (first | (go_at_call 21; refine C2.out.mono ?_; rintro e w5 ⟨rfl, S5, T5, hW5, hD5, hfS, hfT, hdj5, hk5⟩) | fail)
                have kA5 : Keep [] w w5 := kA4.trans hk5 (fun b hb => by
                  rcases List.mem_append.1 hb with h | h
                  · exact Or.inr (hS b h)
                  · exact Or.inr (sD b h))
                have sS5 : Since w S5 := hS.fr hfS kA4.size
                clear hw4 hD hD4 k4 hW4 hC4 hC3 c0 c1 c2 c3 hk3c hk3d hk3e hk3f C2 hW3 hk3 hD5 hdj5 hfT hk5 djD z0
                have hW5' : WrAt w5 P S5 true (putD true (allB (cs.take i)) (cBytes c)) := hW5
                have C3 := Lib.hid (number_any P S5 true _ 7 w5 hW5' rfl (by simp only [putD, if_true]; rw [HN.out]; omega))
                go_upto_region 14 with (first
                  | (go_at_call 25; refine (data_bad P S5 _ w5 hW5').mono ?_; rintro e w9 ⟨rfl, hw⟩; have hw' := hw.symm; subst hw')
                  | (go_at_call 34; refine C3.out.mono ?_; rintro e w6 ⟨rfl, ⟨S6, hW6, hf6⟩, hk6⟩)
                  | fail)
                have kA6 := sS5.keep kA5 hk6
                have hW6' : WrAt w6 P S6 true (putD (true || !isNum 7) (putD true (allB (cs.take i)) (cBytes c)) (numB (7 : Int).toNat)) := by simpa using hW6
                go_wp2_with (first
                  | (go_at_call 25; refine (data_bad P S6 _ w6 hW6').mono ?_; rintro e w9 ⟨rfl, hw⟩; have hw' := hw.symm; subst hw')
                  | (go_at_call 18; refine (known_any _).mono ?_; rintro e w9 ⟨rfl, hk9⟩)
                  | fail)
                go_returns
                exact ⟨rfl, kA6.trans' hk9⟩
            | true =>
              rw [hf] at C1
              have hbad := cBad_fit hf
              have HB := Lib.hid hbad
              have HFI := Lib.hid hf
              have hkk : c.k = 1 ∨ c.k = 2 ∨ c.k = 3 ∨ c.k = 4 := by
                unfold fitB at hf
                by_cases k1 : c.k = 1
                · exact Or.inl k1
                · rw [if_neg k1] at hf
                  by_cases k2 : c.k = 2
                  · exact Or.inr (Or.inl k2)
                  · rw [if_neg k2] at hf
                    by_cases k3 : c.k = 3
                    · exact Or.inr (Or.inr (Or.inl k3))
                    · rw [if_neg k3] at hf; simp at hf; exact Or.inr (Or.inr (Or.inr hf))
              clear hbad
              go_upto_region 16 with (first | (go_at_call 33; refine C1.out.mono ?_; rintro e w3 ⟨rfl, hk3⟩; have hC3 := hC.keep hk3 (by simp)) | fail)
              clear c0 c1 c2 c3 C1
              have kA3 := kA2.trans' hk3
              have hW3 := hW2.keep hk3 (by simp)
              obtain ⟨D, hD⟩ : ∃ D, w3.heap.size = D := ⟨_, rfl⟩
              obtain ⟨w4, hw4⟩ : ∃ w4, w3.alloc (.cells #[.slice none 0 0] 26) = w4 := ⟨_, rfl⟩
              have hD4 : DkAt w4 D [D, D] := by rw [← hw4, ← hD]; exact DkAt.new w3
              have k4 : Keep [] w3 w4 := by rw [← hw4]; exact (Keep.refl _ _).alloc _
              have kA4 := kA3.trans' k4
              have hW4 := hW3.keep k4 (by simp)
              have hC4 := hC3.keep k4 (by simp)
              have hBD : B ∉ [D, D] := by simp; have := hC3.lt; omega
              have sD : Since w [D, D] := by intro b hb; simp at hb; have := kA3.size; omega
              have djD : Dj S [D, D] := fun b hb h => by have := hW3.lt b hb; simp at h; omega
              have C2 := write_any P S D [D, D] false (allB (cs.take i)) c ai li ci w4 hW4 hD4 (hin.keep kA4 (by simp)) djD (hin.since hS) (hin.since sD) hwv (by rw [HN.out]; omega) (by omega)
              rw [HB.out] at C2
              have C2 := Lib.hid C2
              have hk3c : w3.cell? ⟨B, 0, none⟩ = some (.int .i64 c.k) := hC3.cell (i := 0) rfl
              have hk3d : w3.cell? ⟨B, 1, none⟩ = some (.int .i64 c.v) := hC3.cell (i := 1) rfl
              have hk3e : w3.cell? ⟨B, 2, none⟩ = some (.int .i64 c.u) := hC3.cell (i := 2) rfl
              have hk3f : w3.cell? ⟨B, 3, none⟩ = some (.slice ai li ci) := hC3.cell (i := 3) rfl
              go_upto_region 17 with (first | (go_at_call 21; refine C2.out.mono ?_; rintro e w5 ⟨rfl, S5, T5, hW5, hD5, hfS, hfT, hdj5, hk5⟩) | fail)
              have kA5 : Keep [] w w5 := kA4.trans hk5 (fun b hb => by
                rcases List.mem_append.1 hb with h | h
                · exact Or.inr (hS b h)
                · exact Or.inr (sD b h))
              have sS5 : Since w S5 := hS.fr hfS kA4.size
              have hC5 := hC4.keep hk5 (fun h => by
                rcases List.mem_append.1 h with h | h
                · exact hBS h
                · exact hBD h)
              have hs : allB (cs.take (i + 1)) = allB (cs.take i) ++ cBytes c := allB_take HC.out
              have hW5' : WrAt w5 P S5 false (allB (cs.take (i + 1))) := by rw [hs]; exact hW5
              obtain ⟨m, hm⟩ : ∃ m, (cBytes c).length = m := ⟨_, rfl⟩
              have hlen : (allB (cs.take (i + 1))).length = n + m := by rw [hs, List.length_append, HN.out, hm]
              have hmb : m ≤ li + 5 := by
                have h1 := put_len false (allB (cs.take i)) c (by rw [HLI.out]; omega)
                rw [HB.out] at h1
                simp only [putD, Bool.or_false, Bool.false_eq_true, if_false, List.length_append, hm, HLI.out] at h1
                omega
              obtain ⟨n', hn'⟩ : ∃ n', n + m = n' := ⟨_, rfl⟩
              have HN2 := Lib.hid (hlen.trans hn')
              have HNM := Lib.hid hn'
              have HM := Lib.hid hm
              have C3 := data_ok P S5 _ w5 hW5' (by rw [hlen]; omega)
              rw [HN2.out] at C3
              have C3 := Lib.hid C3
              clear hw4 hD hD4 k4 hW4 hC4 hC3 hk3c hk3d hk3e hk3f C2 hW3 hk3 hD5 hdj5 hfT hk5 djD hfS hW5 hs hlen hm hn'
              go_upto_region 18 with (first
                | (go_at_call 25; refine C3.out.mono ?_; rintro e w6 ⟨a6, n6, c6, rfl, rfl, hs6, hf6, hk6⟩)
                | fail)
              have kA6 := kA5.trans' hk6
              have hC6 := hC5.keep hk6 (by simp)
              have hW6 := hW5'.keep hk6 (by simp)
              have c0 : w6.cell? ⟨B, 0, none⟩ = some (.int .i64 c.k) := hC6.cell (i := 0) rfl
              have c1 : w6.cell? ⟨B, 1, none⟩ = some (.int .i64 c.v) := hC6.cell (i := 1) rfl
              have c2 : w6.cell? ⟨B, 2, none⟩ = some (.int .i64 c.u) := hC6.cell (i := 2) rfl
              have c3 : w6.cell? ⟨B, 3, none⟩ = some (.slice ai li ci) := hC6.cell (i := 3) rfl
              have FIN := Lib.hid (show (∃ (j m : Nat) (S' : List Nat), j ≤ len ∧ (Value.int .i64 ((i : Int) + 1)) = .int .i64 (j : Nat) ∧ (Value.int .i64 (n6 : Nat)) = .int .i64 (m : Nat) ∧ Hid ((allB (cs.take j)).length = m) ∧ WrAt w6 P S' false (allB (cs.take j)) ∧ Since w S' ∧ Keep [] w w6 ∧ m ≤ total (cs.take j) + 5 * j ∧ Hid (∀ c ∈ cs.take j, fitB c = true ∨ (c.k < 1 ∨ 4 < c.k))) from
                ⟨i + 1, n6, S5, by omega, by go_num, rfl, HN2, hW6, sS5, kA6, by have := HT.out; have := HNM.out; have := HLI.out; omega, Lib.hid (fun c' hc' => by
                    rw [List.take_add_one, HC.out] at hc'
                    rcases List.mem_append.1 hc' with h | h
                    · exact HF.out c' h
                    · simp at h; subst h; exact Or.inl HFI.out)⟩)
              have hle6 : n ≤ n6 := by have := HNM.out; omega
              have hle7 : n6 ≤ n + li + 5 := by have := HNM.out; omega
              clear hC hC5 hC6 hW2 hW5' hW6 kA2 kA3 kA4 kA5 kA6 hk6 hs6 hf6 C3 sD
              rcases hkk with hk | hk | hk | hk
              · have hb1 := HM.out
                have hb2 := HFI.out
                simp only [cBytes, fitB, hk, if_true] at hb1 hb2
                have hb3 : 0 ≤ c.v ∧ c.v ≤ 2147483647 := by simpa [isNum] using hb2
                have hb4 := numB_len5 (v := c.v.toNat) (by omega)
                have g1 : ((n6 : Int) == n) = false := by have := HNM.out; simp; omega
                have g2 : n6 ≤ n + 5 := by have := HNM.out; omega
                clear hb1 hb2 hb3 hb4 hmb
                rw [hk] at c0
                go_wp2_with fail
                exact ⟨FIN.out, by simp [intOf]; omega⟩
              · have hb1 := HM.out
                have hb2 := HFI.out
                simp only [cBytes, fitB, hk, if_true] at hb1 hb2
                rw [if_neg (by decide), fixB_len] at hb1
                rw [if_neg (by decide)] at hb2
                have hb3 : 1 ≤ c.u ∧ c.u ≤ 4 ∧ 0 ≤ c.v ∧ c.v < 2 ^ (8 * c.u.toNat) := by simpa [isFix] using hb2
                have hb4 : (n : Int) + c.u = n6 := by have := HNM.out; omega
                have g0 : c.u ≤ 4 := hb3.2.1
                have g9 : 1 ≤ c.u := hb3.1
                have g1 : ((n6 : Int) == (n : Int) + c.u) = true := by simp; omega
                have g2 : ((n6 : Int) != (n : Int) + c.u) = false := by simp; omega
                clear hb1 hb2 hb3 hb4 hmb
                rw [hk] at c0
                go_wp2_with fail
                exact ⟨FIN.out, by simp [intOf]; omega⟩
              · have hb1 := HM.out
                simp only [cBytes, hk] at hb1
                rw [if_neg (by decide), if_neg (by decide), if_pos trivial, HLI.out] at hb1
                have g1 : ((n6 : Int) == (n : Int) + li) = true := by have := HNM.out; simp; omega
                have g2 : ((n6 : Int) != (n : Int) + li) = false := by have := HNM.out; simp; omega
                clear hb1 hmb
                rw [hk] at c0
                go_wp2_with fail
                exact ⟨FIN.out, by simp [intOf]; omega⟩
              · rw [hk] at c0
                go_wp2_with fail
                exact ⟨FIN.out, by simp [intOf]; omega⟩
          · obtain rfl : i = len := by omega
            have htk : cs.take i = cs := List.take_of_length_le (by rw [hx.hlen]; exact Nat.le_refl _)
            rw [htk] at HN hW HF hn
            obtain ⟨DF, hDF⟩ : ∃ DF, allB cs = DF := ⟨_, rfl⟩
            rw [hDF] at HN hW
            have hbn : n ≤ 201000 := by omega
            have C1 := data_ok P S DF wr hW (by rw [HN.out]; omega)
            rw [HN.out] at C1
            have C1 := Lib.hid C1
            have HDF := Lib.hid hDF
            clear htk hDF
            go_upto_region 22 with (first
              | (go_at_call 25; refine C1.out.mono ?_; rintro e w2 ⟨a2, n2, c2, rfl, rfl, hs2, hf2, hk2⟩)
              | fail)
            have kA2 := hkw.trans' hk2
            have C2 := Lib.hid (read_any a2 n2 c2 DF w2 HN.out hs2.use.2.1 hs2.use.2.2.1 (by omega))
            clear C1
            go_upto_region 23 with (first
              | (go_at_call 23; refine C2.out.mono ?_; rintro e w3 ⟨R, U, rfl, hR3, hfU, hk3⟩)
              | fail)
            have kA3 := kA2.trans' hk3
            have sU : Since w U := fun b hb => by have := hfU.out b hb; have := kA2.size; omega
            have hl0 : rLeft DF ⟨0, 0, 0⟩ = n2 := by simp [rLeft, HN.out]
            have C3 := rleft_any R U DF ⟨0, 0, 0⟩ w3 hR3
            rw [hl0] at C3
            have C3 := Lib.hid C3
            clear C2 hs2 hf2 hk2 hW hkw hk3 kA2 hl0 hfU
            go_upto_region 25 with (first
              | (go_at_call 32; refine C3.out.mono ?_; rintro e w4 ⟨rfl, hR4, hk4⟩)
              | fail)
            have kA4 := kA3.trans' hk4
            clear C3 hR3 kA3 hk4
            go_wp2_with fail
            go_loopw [18] (fun v18 wx => ∃ (j A : Nat), j ≤ i ∧ v18 = .int .i64 (j : Nat) ∧ Hid ((allB (cs.take j)).length = A) ∧ RdAt wx R U DF ⟨0, 0, A⟩ ∧ Keep [] w wx) (fun v18 _ => i - (intOf v18).toNat)
            case atStart => exact ⟨0, 0, by omega, rfl, Lib.hid rfl, hR4, kA4⟩
            case round =>
              clear hR4 kA4
              obtain ⟨j, A, hj, rfl, HA, hR, hkx⟩ := hrel
              have hRw : w.heap.size ≤ R := sU R hR.self
              by_cases hlt2 : j < i
              · obtain ⟨c, b, off, ai, li, ci, hc, rfl, d0, d1, d2, d3, ⟨hwk, hwv, hwu⟩, hin⟩ := hx.at hlt2
                have e0 := hkx.cell d0 (by simp)
                have e1 := hkx.cell d1 (by simp)
                have e2 := hkx.cell d2 (by simp)
                have e3 := hkx.cell d3 (by simp)
                have hli := hin.hlen
                have ht1 := total_take hc
                have ht2 := total_le cs (j + 1)
                have hlb : li ≤ 200000 := by omega
                have hfit : fitB c = true ∨ (c.k < 1 ∨ 4 < c.k) := HF.out c (List.mem_of_getElem? hc)
                obtain ⟨rest, hrest⟩ := allB_at hc
                rw [HDF.out, HA.out] at hrest
                have hs := allB_take hc
                have hAle : A ≤ DF.length := by have := allB_le cs j; rw [HA.out, HDF.out] at this; exact this
                have HC := Lib.hid hc
                have HR := Lib.hid hrest
                have HS := Lib.hid hs
                have HLI := Lib.hid hli
                clear hc hli hrest hs ht1 ht2
                go_upto_region 29 with (first
                  | (refine wpList_store_last rfl 46 (.tmp 19) (.tmp 186) rfl _ _ (clA c ai li ci) rfl (by simp) rfl size46 rfl rfl ?_)
                  | fail)
                clear e0 e1 e2 e3 d0 d1 d2 d3
                obtain ⟨B, hB⟩ : ∃ B, wr.heap.size = B := ⟨_, rfl⟩
                have hC := Blk.new wr (clA c ai li ci) 46
                have kC : Keep [] wr (wr.alloc (.cells (clA c ai li ci) 46)) := (Keep.refl _ _).alloc _
                rw [hB] at hC ⊢
                have hBR : B ≠ R := by have := hR.lt R hR.self; omega
                clear hB
                generalize wr.alloc (.cells (clA c ai li ci) 46) = w5 at hC kC ⊢
                have kA5 := hkx.trans' kC
                have hR5 := hR.keep kC (by simp)
                clear kC hR hkx
                have kd5 : Keep [] w5 w5.drew := (Keep.refl _ _).drew
                have kR5 := hR5.keep kd5 (by simp)
                have kC5 := hC.drew
                have c0 : w5.cell? ⟨B, 0, none⟩ = some (.int .i64 c.k) := hC.cell (i := 0) rfl
                have c1 : w5.cell? ⟨B, 1, none⟩ = some (.int .i64 c.v) := hC.cell (i := 1) rfl
                have c2 : w5.cell? ⟨B, 2, none⟩ = some (.int .i64 c.u) := hC.cell (i := 2) rfl
                have c3 : w5.cell? ⟨B, 3, none⟩ = some (.slice ai li ci) := hC.cell (i := 3) rfl
                have nextA : ∀ W m, RdAt W R U DF ⟨0, 0, A + m⟩ → Keep [] w W → (cBytes c).length = m → (∃ (j' A' : Nat), j' ≤ i ∧ (Value.int .i64 ((j : Int) + 1)) = .int .i64 (j' : Nat) ∧ Hid ((allB (cs.take j')).length = A') ∧ RdAt W R U DF ⟨0, 0, A'⟩ ∧ Keep [] w W) := fun W m h k e =>
                  ⟨j + 1, A + m, by omega, by go_num, Lib.hid (by rw [HS.out, List.length_append, HA.out, e]), h, k⟩
                have NX := Lib.hid nextA
                clear nextA
                have kr : ∀ W, Keep [R] w5.drew W → Keep [] w W := fun W k => (kA5.trans' kd5).trans k (by intro b hb; simp only [List.mem_singleton] at hb; exact Or.inr (hb ▸ hRw))
                have hb35 : ∀ a6 c6 W, Sl W 5 1 (.slice a6 li c6) li (bs c.d) → Keep [R] w5.drew W → Calls Try.prog 35 #[.slice a6 li c6, .slice ai li ci] W fun e w' => e = .returned (.bool true) ∧ ∃ m, w' = W.drewN m := fun a6 c6 W hs k => by
                  have := bytes_any a6 ai li li c6 ci c.d c.d W HLI.out HLI.out (by omega) hs.use.2.2.1 (hin.keep (kr W k) (by simp)).rd
                  simpa using this
                have KR := Lib.hid kr
                have HB := Lib.hid hb35
                clear kr hb35
                by_cases hout : c.k < 1 ∨ 4 < c.k
                · have hcb := cBytes_out hout
                  have q1 : (c.k == 1) = false := by simp; omega
                  have q2 : (c.k == 2) = false := by simp; omega
                  have q3 : (c.k == 3) = false := by simp; omega
                  have q4 : (c.k == 4) = false := by simp; omega
                  have HCB := Lib.hid hcb
                  clear hcb hout
                  go_wp2_with fail
                  exact ⟨NX.out w5 0 hR5 kA5 (by rw [HCB.out]; rfl), by simp [intOf]; omega⟩
                · have hf : fitB c = true := by rcases hfit with h | h; exact h; exact absurd h hout
                  have hkk : c.k = 1 ∨ c.k = 2 ∨ c.k = 3 ∨ c.k = 4 := by omega
                  clear hfit hout
                  rcases hkk with hk | hk | hk | hk
                  · have hcb : cBytes c = numB c.v.toNat := by simp [cBytes, hk]
                    have hv : isNum c.v = true := by simpa [fitB, hk] using hf
                    have hv2 : 0 ≤ c.v ∧ c.v ≤ 2147483647 := by simpa [isNum] using hv
                    have hrd := back_num (rest := rest) (by have := HR.out; rw [hcb] at this; exact this) hv
                    have C4 := rnumber_any R U DF ⟨0, 0, A⟩ w5.drew kR5
                    rw [hrd] at C4
                    simp only [Int.toNat_of_nonneg hv2.1] at C4
                    have C4 := Lib.hid C4
                    have HCB := Lib.hid hcb
                    have q9 : (c.v == c.v) = true := by simp
                    have q8 : (c.v != c.v) = false := by simp
                    rw [hk] at c0
                    clear hrd hcb hv hv2 hf hk
                    go_upto_region 31 with fail
                    go_region_with ((go_at_call 28; go_must (refine C4.out.mono ?_); go_must (rintro e w6 ⟨rfl, hR6, hk6⟩; have hC6 := kC5.keep hk6 (by simpa using hBR); have g1 : w6.cell? ⟨B, 1, none⟩ = some (.int .i64 c.v) := hC6.cell (i := 1) rfl)))
                    all_goals go_wp2_with fail
                    all_goals exact ⟨NX.out w6 _ hR6 (KR.out _ hk6) (by rw [HCB.out]), by simp [intOf]; omega⟩
                  · have hcb : cBytes c = fixB c.v.toNat c.u.toNat := by simp [cBytes, hk]
                    have hv : isFix c.v c.u = true := by simpa [fitB, hk] using hf
                    have hv2 : 1 ≤ c.u ∧ c.u ≤ 4 ∧ 0 ≤ c.v ∧ c.v < 2 ^ (8 * c.u.toNat) := by simpa [isFix] using hv
                    have hrd := back_fix (rest := rest) (by have := HR.out; rw [hcb] at this; exact this) hv
                    have C4 := rfixed_any R U DF ⟨0, 0, A⟩ c.u w5.drew kR5
                    rw [hrd] at C4
                    simp only [Int.toNat_of_nonneg hv2.2.2.1] at C4
                    have C4 := Lib.hid C4
                    have hl : (cBytes c).length = c.u.toNat := by rw [hcb, fixB_len]
                    have HCB := Lib.hid hl
                    have q9 : (c.v == c.v) = true := by simp
                    have q8 : (c.v != c.v) = false := by simp
                    rw [hk] at c0
                    clear hrd hcb hv hv2 hf hk hl
                    go_upto_region 34 with fail
                    go_region_with ((go_at_call 29; go_must (refine C4.out.mono ?_); go_must (rintro e w6 ⟨rfl, hR6, hk6⟩; have hC6 := kC5.keep hk6 (by simpa using hBR); have g1 : w6.cell? ⟨B, 1, none⟩ = some (.int .i64 c.v) := hC6.cell (i := 1) rfl)))
                    all_goals go_wp2_with fail
                    all_goals exact ⟨NX.out w6 _ hR6 (KR.out _ hk6) HCB.out, by simp [intOf]; omega⟩
                  · have hcb : cBytes c = c.d := by simp [cBytes, hk]
                    have hrd := back_raw (rest := rest) (by have := HR.out; rw [hcb] at this; exact this) hAle
                    have C4 : Calls Try.prog 30 #[.pointer (some ⟨R, 0, none⟩), .int .i64 (li : Nat)] w5.drew fun e w' => ∃ a c', e = .returned (.slice a li c') ∧ Sl w' 5 1 (.slice a li c') li (bs c.d) ∧ RdAt w' R U DF ⟨0, 0, A + li⟩ ∧ Keep [R] w5.drew w' := by
                      refine (rraw_any R U DF ⟨0, 0, A⟩ (li : Nat) w5.drew kR5 (by omega)).mono ?_
                      rintro e w' ⟨a, c', e1, e2, e3, e4, e5⟩
                      rw [HLI.out] at hrd
                      rw [hrd] at e1 e2 e4
                      simp only [HLI.out] at e1 e2 e4
                      exact ⟨a, c', e1, e2, e4, e5⟩
                    have C4 := Lib.hid C4
                    have hl : (cBytes c).length = li := by rw [hcb]; exact HLI.out
                    have HCB := Lib.hid hl
                    rw [hk] at c0
                    clear hrd hcb hf hk hl HF HDF C1 C3 HS HC HR HLI htot hS hn hbn hi hlt hwk hwv hwu hAle hR5 hRw sU HN HA hx hin kA5 hmw
                    go_upto_region 37 with fail
                    go_region_with (first
                      | (go_at_call 30; go_must (refine C4.out.mono ?_); go_must (rintro e w6 ⟨a6, c6, rfl, hs6, hR6, hk6⟩; have hC6 := kC5.keep hk6 (by simpa using hBR); have g3 : w6.cell? ⟨B, 3, none⟩ = some (.slice ai li ci) := hC6.cell (i := 3) rfl))
                      | (go_at_call 35; go_must (refine (HB.out _ _ _ hs6 hk6).mono ?_); go_must (rintro e w7 ⟨rfl, m7, rfl⟩)))
                    all_goals go_wp2_with fail
                    all_goals exact ⟨NX.out _ _ (hR6.keep ((Keep.refl [] _).drewN) (by simp)) (KR.out _ hk6.drewN) HCB.out, by simp [intOf]; omega⟩
                  · have hcb : cBytes c = textB c.d := by simp [cBytes, hk]
                    have hrd := back_text (rest := rest) (by have := HR.out; rw [hcb] at this; exact this) hm0 (by rw [HLI.out]; omega)
                    have C4 : Calls Try.prog 31 #[.pointer (some ⟨R, 0, none⟩), .int .i64 ((li : Nat) + more)] w5.drew fun e w' => ∃ a c', e = .returned (.slice a li c') ∧ Sl w' 5 1 (.slice a li c') li (bs c.d) ∧ RdAt w' R U DF ⟨0, 0, A + (textB c.d).length⟩ ∧ Keep [R] w5.drew w' := by
                      refine (rtext_any R U DF ⟨0, 0, A⟩ ((li : Nat) + more) w5.drew kR5 (by omega)).mono ?_
                      rintro e w' ⟨a, c', e1, e2, e3, e4, e5⟩
                      rw [HLI.out] at hrd
                      rw [hrd] at e1 e2 e4
                      simp only [HLI.out] at e1 e2 e4
                      exact ⟨a, c', e1, e2, e4, e5⟩
                    have C4 := Lib.hid C4
                    have hl : (cBytes c).length = (textB c.d).length := by rw [hcb]
                    have HCB := Lib.hid hl
                    rw [hk] at c0
                    have z1 : IntKind.i64.wrap ((li : Int) + more) = li + more := IntWalk.i64_in _ (by omega)
                    have z2 : wrap64 ((li : Int) + more) = li + more := IntWalk.wrap64_in _ ⟨by omega, by omega⟩
                    clear hrd hcb hf hk hl HF HDF C1 C3 HS HC HR HLI htot hS hn hbn hi hlt hwk hwv hwu hAle hR5 hRw sU HN HA hx hin kA5 hmw
                    go_upto_region 40 with fail
                    go_region_with (first
                      | (go_at_call 31; go_must (refine C4.out.mono ?_); go_must (rintro e w6 ⟨a6, c6, rfl, hs6, hR6, hk6⟩; have hC6 := kC5.keep hk6 (by simpa using hBR); have g3 : w6.cell? ⟨B, 3, none⟩ = some (.slice ai li ci) := hC6.cell (i := 3) rfl))
                      | (go_at_call 35; go_must (refine (HB.out _ _ _ hs6 hk6).mono ?_); go_must (rintro e w7 ⟨rfl, m7, rfl⟩)))
                    all_goals go_wp2_with fail
                    all_goals exact ⟨NX.out _ _ (hR6.keep ((Keep.refl [] _).drewN) (by simp)) (KR.out _ hk6.drewN) HCB.out, by simp [intOf]; omega⟩
              · obtain rfl : j = i := by omega
                have hA : A = n2 := by rw [← HA.out, ← HN.out, ← HDF.out, List.take_of_length_le (by rw [hx.hlen]; exact Nat.le_refl _)]
                subst hA
                have C5 := rerr_any R U DF ⟨0, 0, A⟩ wr hR
                simp only at C5
                have C5 := Lib.hid C5
                go_upto_region 43 with (first
                  | (go_at_call 27; refine C5.out.mono ?_; rintro e w5 ⟨rfl, hR5, hk5⟩)
                  | fail)
                have kA5 := hkx.trans' hk5
                have hl0 : rLeft DF ⟨0, 0, A⟩ = 0 := by simp [rLeft, HN.out]
                have C6 := rleft_any R U DF ⟨0, 0, A⟩ w5 hR5
                rw [hl0] at C6
                have C6 := Lib.hid C6
                clear C5 hR hkx hk5 hl0
                go_wp2_with (first
                  | (go_at_call 32; refine C6.out.mono ?_; rintro e w6 ⟨rfl, hR6, hk6⟩)
                  | (go_at_call 18; refine (known_any _).mono ?_; rintro e w7 ⟨rfl, hk7⟩)
                  | fail)
                go_returns
                exact ⟨rfl, (kA5.trans' hk6).trans' hk7⟩
end Go.Proofs.Ytkhplfgehcljmaa

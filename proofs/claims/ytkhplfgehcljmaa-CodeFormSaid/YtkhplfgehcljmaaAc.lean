/- CodeBeside: two Readers in turns. -/
import Derived.Test.YtkhplfgehcljmaaAb
set_option linter.unusedVariables false
set_option linter.unusedSimpArgs false
namespace Go.Proofs.Ytkhplfgehcljmaa
open Go.RowKit

set_option maxHeartbeats 4000000 in
set_option maxRecDepth 100000 in
theorem codeBeside_walk (ra : Option Addr) (rl rc : Nat) (d : List UInt8) (ra' : Option Addr) (rl' rc' : Nat) (d' : List UInt8) (a : Option Addr) (len cap : Nat) (cs : List Cl) (w : World) (hd : InBytes w ra rl rc d) (hd' : InBytes w ra' rl' rc' d') (hx : InCalls w a len cap cs) :
    Calls Try.prog 7 #[.slice ra rl rc, .slice ra' rl' rc', .slice a len cap] w fun e w' => e = .returned (.bool true) ∧ Keep [] w w' := by
  have hlong := long_any a len cap cs w hx
  have hre := hd.reach
  have hle := hd.hle
  have hre' := hd'.reach
  have hle' := hd'.hle
  cases hb : longB cs with
  | true =>
    rw [hb] at hlong
    go_enter Try.func7, Try.ntmps7
    go_wp2_with (first | (go_at_call 19; refine hlong.mono ?_; rintro e w1 ⟨rfl, hw⟩; have hw' := hw.symm; subst hw') | fail)
    go_returns
    exact ⟨rfl, Keep.refl _ _⟩
  | false =>
    rw [hb] at hlong
    have hcl : len ≤ 200 ∧ total cs ≤ 200000 := by
      have := hx.hlen
      simp [longB] at hb; omega
    obtain ⟨hlen2, htot⟩ := hcl
    clear hb
    by_cases hbig : 200000 < rl
    · go_enter Try.func7, Try.ntmps7
      go_wp2_with (first | (go_at_call 19; refine hlong.mono ?_; rintro e w1 ⟨rfl, hw⟩; have hw' := hw.symm; subst hw') | fail)
      go_returns
      exact ⟨rfl, Keep.refl _ _⟩
    · by_cases hbig' : 200000 < rl'
      · go_enter Try.func7, Try.ntmps7
        go_wp2_with (first | (go_at_call 19; refine hlong.mono ?_; rintro e w1 ⟨rfl, hw⟩; have hw' := hw.symm; subst hw') | fail)
        go_returns
        exact ⟨rfl, Keep.refl _ _⟩
      · obtain ⟨D, hD⟩ : ∃ D, w.heap.size = D := ⟨_, rfl⟩
        obtain ⟨w0, hw0⟩ : ∃ w0, w.alloc (.cells #[.slice none 0 0] 26) = w0 := ⟨_, rfl⟩
        have hD0 : DkAt w0 D [D, D] := by rw [← hw0, ← hD]; exact DkAt.new w
        have k0 : Keep [] w w0 := by rw [← hw0]; exact (Keep.refl _ _).alloc _
        have sD : Since w [D, D] := by intro b hb; simp at hb; omega
        have HL := Lib.hid hd.hlen
        have HL' := Lib.hid hd'.hlen
        have C1 := Lib.hid (layD_any D [D, D] ra rl rc d w0 hD0 (hd.keep k0 (by simp)) (hd.since sD))
        go_enter Try.func7, Try.ntmps7
        go_upto_region 5 with (first
          | (go_at_call 19; refine hlong.mono ?_; rintro e w9 ⟨rfl, hw⟩; have hw' := hw.symm; subst hw')
          | (go_at_call 15; refine C1.out.mono ?_; rintro e w2 ⟨g2, c2, rfl, hd2, hc5, hcm, hr2, hk2, hf2, hgD⟩
             have C2 := read_any (some ⟨g2, 0, none⟩) rl c2 d w2 HL.out (by simp) hr2 (by omega))
          | (go_at_call 23; refine C2.mono ?_; rintro e w3 ⟨P, S, rfl, hR3, hfS, hk3⟩)
          | fail)
        clear hw0 hD C1 hD0 hlong hw
        have kA2 : Keep [] w w2 := sD.keep k0 hk2
        have kA3 : Keep [] w w3 := kA2.trans' hk3
        have sS : Since w S := fun b hb => by have := hfS.out b hb; have := kA2.size; omega
        have sD2 : Since w [D, g2] := sD.fr hf2 k0.size
        have hD3 := hd2.1.keep hk3 (by simp)
        have djS : Dj S [D, g2] := fun b hb h => by have := hfS.out b hb; have := hd2.1.lt b h; omega
        have C3 := Lib.hid (layD_any D [D, g2] ra' rl' rc' d' w3 hD3 (hd'.keep kA3 (by simp)) (hd'.since sD2))
        clear hd2 hk2 hf2 hk3 hfS k0 kA2 hr2 C2 hc5 hcm hgD
        go_upto_region 6 with (first
          | (go_at_call 15; refine C3.out.mono ?_; rintro e w4 ⟨g4, c4, rfl, hd4, hc5', hcm', hr4, hk4, hf4, hgD'⟩
             have C4 := read_any (some ⟨g4, 0, none⟩) rl' c4 d' w4 HL'.out (by simp) hr4 (by omega))
          | (go_at_call 23; refine C4.mono ?_; rintro e w5 ⟨P', S', rfl, hR5', hfS', hk5⟩)
          | fail)
        have kA4 : Keep [] w w4 := sD2.keep kA3 hk4
        have kA5 : Keep [] w w5 := kA4.trans' hk5
        have sS' : Since w S' := fun b hb => by have := hfS'.out b hb; have := kA4.size; omega
        have sD4 : Since w [D, g4] := sD2.fr hf4 kA3.size
        have hR4 := hR3.keep hk4 djS
        have hR5 := hR4.keep hk5 (by simp)
        have hD5 := hd4.1.keep hk5 (by simp)
        have djS2 : Dj S [D, g4] := (djS.symm.fr hf4 hR3.lt).symm
        have djS4 : Dj S' [D, g4] := fun b hb h => by have := hfS'.out b hb; have := hd4.1.lt b h; omega
        have djSS : Dj S S' := fun b hb h => by have := hfS'.out b h; have := hR4.lt b hb; omega
        clear hR3 hR4 hk4 hf4 hd4 hk5 hfS' kA3 kA4 hr4 C3 C4 hc5' hcm' hgD' hD3 djS sD2 sD
        go_upto_region 7 with (first
          | (go_at_call 15; refine (layD_any D [D, g4] none 0 0 [] _ hD5 (nilIn _) (fun h => absurd rfl h)).mono ?_; rintro e w6 ⟨g6, c6, rfl, hd6, -, -, -, hk6, hf6, -⟩)
          | fail)
        have kA6 : Keep [] w w6 := sD4.keep kA5 hk6
        have hR6 := hR5.keep hk6 djS2
        have hR6' := hR5'.keep hk6 djS4
        have hi6 := hd.keep kA6 (by simp)
        obtain ⟨X, hX⟩ : ∃ X, w6.heap.size = X := ⟨_, rfl⟩
        obtain ⟨w7, hw7⟩ : ∃ w7, w6.alloc (.cells #[.slice ra rl rc, .int .i64 0, .int .i64 0, .int .i64 0] 53) = w7 := ⟨_, rfl⟩
        have hX7 : RefAt w7 X ra rc d ⟨0, 0, 0⟩ := by rw [← hw7]; exact RefAt.new hi6 X hX.symm
        have k7 : Keep [] w6 w7 := by rw [← hw7]; exact (Keep.refl _ _).alloc _
        have kA7 := kA6.trans' k7
        have hXS : X ∉ S := fun h => by have := hR6.lt X h; omega
        have hXS' : X ∉ S' := fun h => by have := hR6'.lt X h; omega
        have hXw : w.heap.size ≤ X := by have := kA6.size; omega
        have hXlt := hX7.blk.lt
        have hi7 := hd'.keep kA7 (by simp)
        obtain ⟨X', hX'⟩ : ∃ X', w7.heap.size = X' := ⟨_, rfl⟩
        obtain ⟨w8, hw8⟩ : ∃ w8, w7.alloc (.cells #[.slice ra' rl' rc', .int .i64 0, .int .i64 0, .int .i64 0] 53) = w8 := ⟨_, rfl⟩
        have hX8 : RefAt w8 X' ra' rc' d' ⟨0, 0, 0⟩ := by rw [← hw8]; exact RefAt.new hi7 X' hX'.symm
        have k8 : Keep [] w7 w8 := by rw [← hw8]; exact (Keep.refl _ _).alloc _
        have kA8 := kA7.trans' k8
        have hYS : X' ∉ S := fun h => by have := hR6.lt X' h; have := k7.size; omega
        have hYS' : X' ∉ S' := fun h => by have := hR6'.lt X' h; have := k7.size; omega
        have hYw : w.heap.size ≤ X' := by have := kA7.size; omega
        have hXY : X ≠ X' := by omega
        have hbe : Beside w8 P S X ra rc d ⟨0, 0, 0⟩ := ⟨(hR6.keep k7 (by simp)).keep k8 (by simp), hX7.keep k8 (by simp) (by simp), hXS, hd.since sS⟩
        have hbe' : Beside w8 P' S' X' ra' rc' d' ⟨0, 0, 0⟩ := ⟨(hR6'.keep k7 (by simp)).keep k8 (by simp), hX8, hYS', hd'.since sS'⟩
        go_upto_region 11 with fail
        clear hw7 hw8 hX hX' hX7 hX8 k7 k8 hR6 hR6' hi6 hi7 kA7 kA6 kA5 hk6 hf6 hd6 hD5 hR5 hR5' djS2 djS4 sD4 hXlt
        go_wp2_with fail
        go_loopw [12] (fun v12 wr => ∃ i s s', i ≤ len ∧ v12 = .int .i64 (i : Nat) ∧ Beside wr P S X ra rc d s ∧ Beside wr P' S' X' ra' rc' d' s' ∧ Keep [] w wr) (fun v12 _ => len - (intOf v12).toNat)
        case atStart => exact ⟨0, _, _, by omega, rfl, hbe, hbe', kA8⟩
        case round =>
          clear hbe hbe' kA8
          obtain ⟨i, s, s', hi, rfl, hbe, hbe', hkw⟩ := hrel
          by_cases hlt : i < len
          · obtain ⟨c, b, off, ai, li, ci, hc, rfl, d0, d1, d2, d3, ⟨hwk, hwv, hwu⟩, hin⟩ := hx.at hlt
            have e0 := hkw.cell d0 (by simp)
            have e1 := hkw.cell d1 (by simp)
            have e2 := hkw.cell d2 (by simp)
            have e3 := hkw.cell d3 (by simp)
            clear hc
            go_upto_region 15 with (first
              | (refine wpList_store_last rfl 46 (.tmp 13) (.tmp 59) rfl _ _ (clA c ai li ci) rfl (by simp) rfl size46 rfl rfl ?_)
              | fail)
            clear e0 e1 e2 e3 d0 d1 d2 d3
            obtain ⟨B, hB⟩ : ∃ B, wr.heap.size = B := ⟨_, rfl⟩
            have hC := Blk.new wr (clA c ai li ci) 46
            have kC : Keep [] wr (wr.alloc (.cells (clA c ai li ci) 46)) := (Keep.refl _ _).alloc _
            rw [hB] at hC ⊢
            clear hB
            generalize wr.alloc (.cells (clA c ai li ci) 46) = w2 at hC kC ⊢
            have kA2 := hkw.trans' kC
            have hb2 := hbe.keep kC (by simp) (by simp) (by simp)
            have hb2' := hbe'.keep kC (by simp) (by simp) (by simp)
            clear kC hbe hbe' hkw
            have c0 : w2.cell? ⟨B, 0, none⟩ = some (.int .i64 c.k) := hC.cell (i := 0) rfl
            have c1 : w2.cell? ⟨B, 1, none⟩ = some (.int .i64 c.v) := hC.cell (i := 1) rfl
            have c2 : w2.cell? ⟨B, 2, none⟩ = some (.int .i64 c.u) := hC.cell (i := 2) rfl
            have c3 : w2.cell? ⟨B, 3, none⟩ = some (.slice ai li ci) := hC.cell (i := 3) rfl
            by_cases hev : i % 2 = 0
            · have hev2 : (i : Int) % 2 = 0 := by omega
              have C5 := readLaw_any P X S ra rc d s c ai li ci w2 hb2 hwv (by rw [HL.out]; omega)
              unfold Reads2 at C5
              have C5 := Lib.hid C5
              go_wp2_with (first
                | (go_at_call 24; refine C5.out.mono ?_; rintro e w7 ⟨rfl, s7, hb7, hk7⟩)
                | fail)
              refine ⟨⟨i + 1, s7, s', by omega, by go_num, hb7, hb2'.keep hk7 (fun b hb h => ?_) (fun h => ?_) (fun hne h => ?_), kA2.trans hk7 (fun b hb => ?_)⟩, by simp [intOf]; omega⟩
              · simp only [List.mem_cons, List.not_mem_nil, or_false] at h
                rcases h with rfl | rfl
                · exact djSS _ hb2.mine.self hb
                · exact hXS' hb
              · simp only [List.mem_cons, List.not_mem_nil, or_false] at h
                rcases h with h | h
                · exact hYS (h ▸ hb2.mine.self)
                · exact hXY h.symm
              · have h1 := hd'.blk hne
                simp only [List.mem_cons, List.not_mem_nil, or_false] at h
                rcases h with h | h
                · have := sS _ hb2.mine.self; omega
                · omega
              · simp only [List.mem_cons, List.not_mem_nil, or_false] at hb
                rcases hb with rfl | rfl
                · exact Or.inr (sS _ hb2.mine.self)
                · exact Or.inr hXw
            · have hev2 : (i : Int) % 2 = 1 := by omega
              have C5 := readLaw_any P' X' S' ra' rc' d' s' c ai li ci w2 hb2' hwv (by rw [HL'.out]; omega)
              unfold Reads2 at C5
              have C5 := Lib.hid C5
              go_wp2_with (first
                | (go_at_call 24; refine C5.out.mono ?_; rintro e w7 ⟨rfl, s7, hb7, hk7⟩)
                | fail)
              refine ⟨⟨i + 1, s, s7, by omega, by go_num, hb2.keep hk7 (fun b hb h => ?_) (fun h => ?_) (fun hne h => ?_), hb7, kA2.trans hk7 (fun b hb => ?_)⟩, by simp [intOf]; omega⟩
              · simp only [List.mem_cons, List.not_mem_nil, or_false] at h
                rcases h with rfl | rfl
                · exact djSS.symm _ hb2'.mine.self hb
                · exact hYS hb
              · simp only [List.mem_cons, List.not_mem_nil, or_false] at h
                rcases h with h | h
                · exact hXS' (h ▸ hb2'.mine.self)
                · exact hXY h
              · have h1 := hd.blk hne
                simp only [List.mem_cons, List.not_mem_nil, or_false] at h
                rcases h with h | h
                · have := sS' _ hb2'.mine.self; omega
                · omega
              · simp only [List.mem_cons, List.not_mem_nil, or_false] at hb
                rcases hb with rfl | rfl
                · exact Or.inr (sS' _ hb2'.mine.self)
                · exact Or.inr hYw
          · go_wp2_with (first
              | (go_at_call 18; refine (known_any _).mono ?_; rintro e w9 ⟨rfl, hk9⟩)
              | fail)
            go_returns
            exact ⟨rfl, hkw.trans' hk9⟩
end Go.Proofs.Ytkhplfgehcljmaa

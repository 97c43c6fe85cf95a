/- The law RollSums: its walk. -/
import Derived.Test.YtcbinihjbmgkdaaG
set_option linter.unusedVariables false
set_option linter.unusedSimpArgs false
namespace Go.Proofs.Ytcbinihjbmgkdaa
open Go.RowKit

def sumLen (xss : List (List UInt8)) : Nat := (xss.map List.length).sum
theorem sumLen_snoc (xss : List (List UInt8)) (k : Nat) (h : k < xss.length) : sumLen (xss.take (k + 1)) = sumLen (xss.take k) + xss[k].length := by
  rw [sumLen, List.take_succ_eq_append_getElem h, List.map_append, List.sum_append]; rfl
theorem sumLen_mem : ∀ (xss : List (List UInt8)) (k : Nat) (h : k < xss.length), xss[k].length ≤ sumLen xss
  | x :: xss, 0, _ => by simp [sumLen]
  | x :: xss, k + 1, h => by
    have := sumLen_mem xss k (by simpa using h)
    simp only [sumLen, List.map_cons, List.sum_cons, List.getElem_cons_succ] at *
    omega

set_option maxHeartbeats 4000000 in
set_option maxRecDepth 100000 in
theorem rollSums_walk (a : Option Addr) (n cap : Nat) (xss : List (List UInt8)) (W : World) (h : InRows W a n cap xss) :
    Calls Try.prog 3 #[.slice a n cap] W fun e w' => e = .returned (.bool true) ∧ Keep [] W w' := by
  have hle := h.hle
  have hreach := h.reach
  have HL := Lib.hid h.hlen
  by_cases hn : 200 < n
  · have d1 : decide ((200 : Int) < n) = true := decide_eq_true (by omega)
    go_enter Try.func3, Try.ntmps3
    go_wp2
    go_returns
    exact ⟨rfl, Keep.refl _ _⟩
  · have d1 : decide ((200 : Int) < n) = false := decide_eq_false (by omega)
    go_enter Try.func3, Try.ntmps3
    go_wp2
    go_loop [3, 4] (fun t i => ∃ k : Nat, k ≤ n ∧ i = .int .i64 k ∧ t = .int .i64 (sumLen (xss.take k)) ∧ sumLen (xss.take k) ≤ 100000) (fun _ i => n - (intOf i).toNat)
    case atStart => exact ⟨0, by omega, rfl, rfl, by simp [sumLen]⟩
    case round =>
      obtain ⟨k, hk, rfl, rfl, ht⟩ := hrel
      by_cases hlt : k < n
      · obtain ⟨b, off, ai, li, ci, rfl, hb, hc, hi⟩ := h.cell hlt
        have hir := hi.reach
        have hil := hi.hle
        have HS : Hid (sumLen (xss.take (k + 1)) = sumLen (xss.take k) + li) := by
          show _ = _
          rw [sumLen_snoc xss k (by rw [HL.out]; exact hlt), hi.hlen]
        go_wp2
        · go_returns
          exact ⟨rfl, Keep.refl _ _⟩
        · have hs := HS.out
          exact ⟨⟨k + 1, by omega, by go_num, by rw [hs]; push_cast; rfl, by omega⟩, by simp [intOf]; omega⟩
      · have hall : ∀ i (hi : i < n), (xss[i]'(by rw [HL.out]; exact hi)).length ≤ 100000 := fun i hi => by
          have := sumLen_mem xss i (by rw [HL.out]; exact hi)
          rw [List.take_of_length_le (by rw [HL.out]; omega)] at ht
          omega
        have HA := Lib.hid hall
        clear hall
        go_wp2
        go_loopw [6] (fun i wr => ∃ k g m c, k ≤ 2 * n ∧ i = .int .i64 (k : Nat) ∧ DeskAt wr W.heap.size g m c ∧ m ≤ 9223372036854775807 ∧ W.heap.size ≤ g ∧ Keep [] W wr) (fun i _ => 2 * n - (intOf i).toNat)
        case atStart => exact ⟨0, W.heap.size, 0, [], by omega, rfl, ⟨rfl, by simp, Or.inl ⟨Blk.new _ _ _, rfl, rfl⟩⟩, by omega, by omega, (Keep.refl _ _).alloc _⟩
        case round =>
          obtain ⟨k, g, m, c, hk2, rfl, hD, hm, hg, hkp⟩ := hrel
          by_cases hlt2 : k < 2 * n
          · go_upto_if 39 with fail
            go_cut [7] (fun v wc => wc = wr ∧ ∃ idx : Nat, idx < n ∧ v = .int .i64 idx)
            case first =>
              by_cases hkn : k < n
              · go_wp2
                go_meet
                case rel => exact ⟨rfl, k, hkn, rfl⟩
              · go_wp2
                go_meet
                case rel => exact ⟨rfl, 2 * n - 1 - k, by omega, by congr 1; omega⟩
            case rest =>
              obtain ⟨rfl, idx, hidx, rfl⟩ := hcut
              obtain ⟨b, off, ai, li, ci, rfl, hb, hc, hi⟩ := h.cell hidx
              have hx := HA.out idx hidx
              generalize hxs : xss[idx]'(by rw [HL.out]; exact hidx) = xs at hi hx
              have hl5 : li ≤ 100000 := by rw [← hi.hlen]; exact hx
              have hc0 := hkp.cell hc (by simp)
              have hi0 := hi.keep hkp (by simp)
              clear hx hxs
              have hsz0 := hkp.size
              have hfd := hi.far (d := W.heap.size) (Nat.le_refl _)
              have hfg := hi.far hg
              have hbd : b ∉ [W.heap.size, g] := by simp; omega
              have HLi := Lib.hid hi.hlen
              have HF := Lib.hid (And.intro hfd (And.intro hfg (And.intro hi0.rd (And.intro hD hbd))))
              have q1 : (idx : Int) < n := by omega
              have HF2 := Lib.hid hc
              clear hfd hfg hbd hc
              go_wp2
              go_region_with (first
                | (go_at_call 12; go_must (refine (lay_n W.heap.size g m c ai li ci xs _ HLi.out (by omega) hm (HF.out.2.2.2.1.keep ((Keep.refl _ _).drew)) (HF.out.2.2.1.keep (S := []) ((Keep.refl _ _).drew) (by simp)) (fun e => ⟨HF.out.1 e, HF.out.2.1 e⟩)).mono ?_); go_must (rintro e w1 ⟨g1, n1, rfl, hd1, hn1, hn1', hk1, hg1, hgd1⟩; have hk1' : Keep [] W w1 := (hkp.drew).trans hk1 (by simp; omega); have hc1 := hk1'.cell (HF2.out) (by simp); have hi1 := hi.keep hk1' (by simp); have HD1 := Lib.hid hd1; have HK1 := Lib.hid hk1'; have hrd1 := hd1.rd hgd1; have hgW : W.heap.size ≤ g1 := by rcases hg1 with e | e; (rw [e]; exact hg); (have e2 : W.heap.size ≤ wc.drew.heap.size := hkp.size; omega)))
                | (go_at_call 11; go_must (refine (sumF_n _ li _ xs _ HLi.out (by omega) hrd1).mono ?_); go_must (rintro e w2 ⟨rfl, hk2⟩; have hc2 := hk2.cell hc1 (by simp); have hi2 := hi1.keep hk2 (by simp); have hk2' := HK1.out.trans' hk2; have hd2 := HD1.out.keep hk2))
                | (go_at_call 13; go_must (refine (refSum_n ai li ci xs _ HLi.out (by omega) hi2.rd).mono ?_); go_must (rintro e w3 ⟨rfl, hk3⟩; have hc3 := hk3.cell hc2 (by simp); have hi3 := hi2.keep hk3 (by simp); have hk3' := hk2'.trans' hk3; have hd3 := hd2.keep hk3))
                | (go_at_call 14; go_must (refine (lies_n W.heap.size g1 n1 ai li ci xs _ HLi.out hn1' (by omega) hd3 hi3.rd).mono ?_); go_must (rintro e w4 ⟨rfl, mm, rfl⟩)))
              all_goals go_wp2
              all_goals exact ⟨⟨k + 1, g1, n1, laid xs n1, by omega, by go_num, DeskAt.keep hd3 ((Keep.refl _ _).drewN), hn1', hgW, hk3'.drewN⟩, by simp [intOf]; omega⟩
          · go_wp2_with fail
            refine (known_any wr).mono ?_
            rintro e w5 ⟨rfl, hk5⟩
            go_wp2
            go_returns
            exact ⟨rfl, hkp.trans' hk5⟩
end Go.Proofs.Ytcbinihjbmgkdaa

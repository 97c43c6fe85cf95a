/- Encode of the document. -/
import Derived.Test.YtjdkeabimcajlaaEn
set_option linter.unusedVariables false
set_option linter.unusedSimpArgs false
namespace Go.Proofs.Ytjdkeabimcajlaa
open Go.RowKit

theorem RsIn.range {w : World} {b off n c i : Nat} {l : List Res} {x : Res} (h : RsIn w (some ⟨b, off, none⟩) n c l) (hx : l[i]? = some x) : w.rangeAt b (off + i * 65) x.cells := by
  have hi := (List.getElem?_eq_some_iff.1 hx).1
  obtain ⟨x', b', o', ex, e, hr⟩ := h.at (show i < n by have := h.hlen; omega)
  rw [hx] at ex
  cases ex
  obtain ⟨rfl, rfl⟩ : b = b' ∧ off = o' := by simpa using e
  exact hr
theorem act_cell {w : World} {b o k : Nat} {x : Res} (h : w.rangeAt b o x.cells) (hk : k < 32) : ∃ y, x.act[k]? = some y ∧ w.cell? ⟨b, o + k, none⟩ = some (B8 y) := by
  have hg := List.getElem?_eq_getElem (l := x.act) (i := k) (by rw [x.la]; exact hk)
  exact ⟨_, hg, rangeAt_act h k _ (by rw [bs, List.getElem?_map, hg]; rfl)⟩
theorem root_cell {w : World} {b o k : Nat} {x : Res} (h : w.rangeAt b o x.cells) (hk : k < 32) : ∃ y, x.root[k]? = some y ∧ w.cell? ⟨b, o + 32 + k, none⟩ = some (B8 y) := by
  have hg := List.getElem?_eq_getElem (l := x.root) (i := k) (by rw [x.lr]; exact hk)
  exact ⟨_, hg, rangeAt_root h k _ (by rw [bs, List.getElem?_map, hg]; rfl)⟩
theorem take_one {α : Type} {l : List α} {k : Nat} {y : α} (h : l[k]? = some y) : l.take (k + 1) = l.take k ++ [y] := by rw [List.take_add_one, h]; rfl

set_option maxRecDepth 100000 in
theorem refEncode_no (a : Option Addr) (n c : Nat) (l : List Res) (w : World) (hx : RsIn w a n c l) (hv : validR l = false) :
    Calls Try.prog 15 #[.slice a n c] w fun e w' => e = .returned (.tuple #[.slice none 0 0, .int .i64 80]) ∧ Keep [] w w' := by
  have C0 := refValid_any a n c l w hx
  rw [hv] at C0
  have C1 := Lib.hid C0
  clear C0
  go_enter Try.func15, Try.ntmps15
  go_wp2_with (first | (go_at_call 18; refine C1.out.mono ?_; rintro e w1 ⟨rfl, hk1⟩) | fail)
  go_returns
  exact ⟨rfl, hk1⟩

set_option maxHeartbeats 2000000 in
set_option maxRecDepth 100000 in
theorem refEncode_yes (a : Option Addr) (n c : Nat) (l : List Res) (w : World) (hx : RsIn w a n c l) (hv : validR l = true) :
    Calls Try.prog 15 #[.slice a n c] w fun e w' => ∃ a' c', e = .returned (.tuple #[.slice a' (encR l).length c', .int .i64 0]) ∧ Sl w' 5 1 (.slice a' (encR l).length c') (encR l).length (bs (encR l)) ∧ Fr w [] (blks (.slice a' (encR l).length c')) ∧ Keep [] w w' := by
  have C0 := refValid_any a n c l w hx
  rw [hv] at C0
  have C1 := Lib.hid C0
  have hl := hx.hlen
  have h32 := valid_32 hv
  have HL := Lib.hid hl
  have hn32 : n ≤ 32 := by omega
  have hcode := Lib.hid (fun i x hx => valid_code hv (i := i) (x := x) hx)
  obtain ⟨N, hN, hso⟩ := size39
  have HN := Lib.hid hN
  have hnl := (numB_len5 (show n ≤ 2147483647 by omega)).2
  clear hN hl h32 hv C0
  go_enter Try.func15, Try.ntmps15
  go_upto_region 5 with (first
    | (go_at_call 18; refine C1.out.mono ?_; rintro e w1 ⟨rfl, hk1⟩)
    | (go_at_call 41; refine (refNumber_any n w1 (by omega)).mono ?_; rintro e w2 ⟨a2, c2, rfl, hs2, hf2, hk2⟩)
    | fail)
  have k2 : Keep [] w w2 := hk1.trans' hk2
  have f2 : Fr w [] (blks (.slice a2 (numB n).length c2)) := hf2.le hk1.size
  clear C1 hk1 hk2 hf2
  go_wp2_with fail
  go_loopw [5, 6, 7, 8] (fun v5 v6 v7 v8 wr => ∃ (i m : Nat) (va : Option Addr) (vc : Nat), i ≤ n ∧ v6 = .int .i64 (i : Nat) ∧ v5 = .slice va m vc ∧ Hid ((numB n ++ (l.take i).flatMap resB).length = m) ∧ Sl wr 5 1 (.slice va m vc) m (bs (numB n ++ (l.take i).flatMap resB)) ∧ Fr w [] (blks (.slice va m vc)) ∧ Keep [] w wr) (fun _ v6 _ _ _ => n - (intOf v6).toNat)
  case atStart => exact ⟨0, _, _, _, by omega, rfl, rfl, Lib.hid (by simp), by simpa using hs2, f2, k2⟩
  case round =>
    clear hs2 f2 k2
    obtain ⟨i, m, va, vc, hi, rfl, rfl, HM, hS, hF, kk⟩ := hrel
    have hm : m ≤ 5 + 32 * 65 := by
      rw [← HM.out, List.length_append, flat_len, List.length_take]
      have : min i l.length ≤ 32 := by omega
      have : min i l.length * 65 ≤ 32 * 65 := Nat.mul_le_mul_right _ this
      omega
    by_cases hlt : i < n
    · obtain ⟨x, b, off, ex, rfl, rx⟩ := (hx.keep kk (by simp)).at hlt
      obtain ⟨hc0, hc1⟩ := hcode.out i x ex
      have i0 : (0 : Int) ≤ i := by omega
      have i1 : (i : Int) < n := by omega
      have HEX := Lib.hid (flat_take ex)
      have HEXX := Lib.hid ex
      obtain ⟨d, hd⟩ : ∃ d, numB n ++ (l.take i).flatMap resB = d := ⟨_, rfl⟩
      rw [hd] at hS HM
      have HD := Lib.hid hd
      clear ex hd rx
      obtain ⟨wo, hwo⟩ : ∃ wo : World, wo = wr := ⟨_, rfl⟩
      rw [← hwo] at kk hS ⊢
      clear hwo
      go_upto_region 9 with fail
      go_loopw [5, 7] (fun v5 v7 wx => ∃ (k : Nat) (va : Option Addr) (vc : Nat), k ≤ 32 ∧ v7 = .int .i64 (k : Nat) ∧ v5 = .slice va (m + k) vc ∧ Sl wx 5 1 (.slice va (m + k) vc) (m + k) (bs (d ++ x.act.take k)) ∧ Fr w [] (blks (.slice va (m + k) vc)) ∧ Keep [] w wx) (fun _ v7 _ => 32 - (intOf v7).toNat)
      case atStart => exact ⟨0, va, vc, by omega, rfl, rfl, by simpa using hS, hF, kk⟩
      case round =>
        clear hS hF kk
        obtain ⟨k, va, vc, hk, rfl, rfl, hS, hF, kk⟩ := hrel
        have k0 : (0 : Int) ≤ k := by omega
        by_cases hk32 : k < 32
        · obtain ⟨y, ey, cy⟩ := act_cell ((hx.keep kk (by simp)).range HEXX.out) hk32
          rw [HN.out] at cy
          have k1 : (k : Int) < 32 := by omega
          have HT := Lib.hid (take_one ey)
          clear ey
          go_wp2_with (first
            | (at_builtin; go_must (refine wpList_append1 wr rfl (.tmp 26) (.tmp 34) 25 rfl 5 (.int .u8 0) 1 Try.underlying25 info5 rfl (B8 y) rfl (.slice va (m + k) vc) (m + k) _ rfl hS rfl (by simp only [maxLen]; omega) (by omega) ?_; intro a1 c1 w3 hs3 hk3 hf3))
            | fail)
          refine ⟨⟨k + 1, a1, c1, by omega, by go_num, rfl, ?_, hF.trans hf3 kk.size, kk.trans hk3 (fun b hb => by rcases hF b hb with h | h; cases h; exact Or.inr h)⟩, by simp [intOf]; omega⟩
          rw [HT.out, ← List.append_assoc, bs_append]; exact hs3
        · obtain rfl : k = 32 := by omega
          have hA : x.act.take 32 = x.act := List.take_of_length_le (by rw [x.la]; exact Nat.le_refl _)
          rw [hA] at hS
          clear hk32 hA
          obtain ⟨q, hq⟩ : ∃ q, m + 32 = q := ⟨_, rfl⟩
          have hq' : q ≤ 37 + 32 * 65 := by omega
          have e32 : ((32 : Nat) : Int) = 32 := rfl
          rw [hq] at hS hF
          simp only [hq, e32]
          clear e32
          have HQ := Lib.hid hq
          clear hq
          obtain ⟨wo, hwo⟩ : ∃ wo : World, wo = wr := ⟨_, rfl⟩
          rw [← hwo] at kk hS ⊢
          clear hwo
          go_upto_region 13 with fail
          go_loopw [5, 8] (fun v5 v8 wx => ∃ (k : Nat) (va : Option Addr) (vc : Nat), k ≤ 32 ∧ v8 = .int .i64 (k : Nat) ∧ v5 = .slice va (q + k) vc ∧ Sl wx 5 1 (.slice va (q + k) vc) (q + k) (bs (d ++ x.act ++ x.root.take k)) ∧ Fr w [] (blks (.slice va (q + k) vc)) ∧ Keep [] w wx) (fun _ v8 _ => 32 - (intOf v8).toNat)
          case atStart => exact ⟨0, va, vc, by omega, rfl, rfl, by simpa using hS, hF, kk⟩
          case round =>
            clear hS hF kk
            obtain ⟨k, va, vc, hk, rfl, rfl, hS, hF, kk⟩ := hrel
            have k0 : (0 : Int) ≤ k := by omega
            have rX := (hx.keep kk (by simp)).range HEXX.out
            by_cases hk32 : k < 32
            · obtain ⟨y, ey, cy⟩ := root_cell rX hk32
              rw [HN.out] at cy
              have k1 : (k : Int) < 32 := by omega
              have HT := Lib.hid (take_one ey)
              clear ey rX
              go_wp2_with (first
                | (at_builtin; go_must (refine wpList_append1 wr rfl (.tmp 40) (.tmp 48) 25 rfl 5 (.int .u8 0) 1 Try.underlying25 info5 rfl (B8 y) rfl (.slice va (q + k) vc) (q + k) _ rfl hS rfl (by simp only [maxLen]; omega) (by omega) ?_; intro a1 c1 w3 hs3 hk3 hf3))
                | fail)
              refine ⟨⟨k + 1, a1, c1, by omega, by go_num, rfl, ?_, hF.trans hf3 kk.size, kk.trans hk3 (fun b hb => by rcases hF b hb with h | h; cases h; exact Or.inr h)⟩, by simp [intOf]; omega⟩
              rw [HT.out, ← List.append_assoc, bs_append]; exact hs3
            · obtain rfl : k = 32 := by omega
              have hA : x.root.take 32 = x.root := List.take_of_length_le (by rw [x.lr]; exact Nat.le_refl _)
              rw [hA] at hS
              clear hk32 hA
              have cz := rangeAt_code rX
              rw [HN.out] at cz
              obtain ⟨z, hz⟩ : ∃ z, x.code = z := ⟨_, rfl⟩
              rw [hz] at cz hc0 hc1
              have HZ := Lib.hid hz
              clear hz rX
              go_wp2_with (first
                | (at_builtin; go_must (refine wpList_append1 wr rfl (.tmp 50) (.tmp 57) 25 rfl 5 (.int .u8 0) 1 Try.underlying25 info5 rfl (.int .u8 z) rfl (.slice va (q + 32) vc) (q + 32) _ rfl hS rfl (by simp only [maxLen]; omega) (by omega) ?_; intro a1 c1 w3 hs3 hk3 hf3))
                | fail)
              refine ⟨⟨i + 1, q + 32 + 1, a1, c1, by omega, by go_num, rfl, Lib.hid ?_, ?_, hF.trans hf3 kk.size, kk.trans hk3 (fun b hb => by rcases hF b hb with h | h; cases h; exact Or.inr h)⟩, by simp [intOf]; omega⟩
              · have h1 := congrArg List.length HD.out
                rw [List.length_append, HM.out] at h1
                rw [HEX.out, List.length_append, List.length_append, resB_len]
                have := HQ.out
                omega
              · have hv : Value.int .u8 z = B8 (UInt8.ofNat z.toNat) := by
                  obtain ⟨Z, rfl⟩ := Int.eq_ofNat_of_zero_le hc0
                  exact byte_low Z (by omega)
                rw [hv] at hs3
                have e : numB n ++ (l.take (i + 1)).flatMap resB = d ++ x.act ++ x.root ++ [UInt8.ofNat z.toNat] := by
                  rw [HEX.out, ← List.append_assoc, HD.out, resB, HZ.out]; simp
                rw [e, bs_append]; exact hs3
    · have hin : i = n := by omega
      have HIN := Lib.hid hin
      have hfull : numB n ++ (l.take i).flatMap resB = encR l := by
        rw [List.take_of_length_le (by rw [HL.out]; omega), encR, HL.out]
      rw [hfull] at hS HM
      have HM2 := Lib.hid HM.out.symm
      clear hfull hin HM
      go_wp2_with fail
      go_returns
      have hm2 := HM2.out
      subst hm2
      exact ⟨va, vc, rfl, hS, hF, kk⟩
end Go.Proofs.Ytjdkeabimcajlaa

/- TableBack: its walk. -/
import Derived.Test.YtjdkeabimcajlaaTo
set_option linter.unusedVariables false
set_option linter.unusedSimpArgs false
namespace Go.Proofs.Ytjdkeabimcajlaa
open Go.RowKit

theorem encode_sl (a : Option Addr) (n c : Nat) (l : List Res) (xs : List UInt8) (w : World) (hx : RsIn w a n c l) (hv : validR l = true) (he : encR l = xs) :
    Calls Try.prog 14 #[.slice a n c] w fun e w' => ∃ a' n' c', e = .returned (.tuple #[.slice a' n' c', .int .i64 0]) ∧ xs.length = n' ∧ Sl w' 5 1 (.slice a' n' c') n' (bs xs) ∧ Fr w [] (blks (.slice a' n' c')) ∧ Keep [] w w' := by
  subst he
  refine (encode_yes a n c l w hx hv).mono ?_
  rintro e w' ⟨a', c', rfl, s, f, k⟩
  exact ⟨a', _, c', rfl, rfl, s, f, k⟩
theorem Sl.hnil {w : World} {e : TypeId} {sz n c : Nat} {a : Option Addr} {vs : List Value} (h : Sl w e sz (.slice a n c) n vs) : a = none → c = 0 := by
  obtain ⟨a', cap, e, _, _, _, _, h3⟩ := h.form
  obtain ⟨e1, e2⟩ : a = a' ∧ c = cap := by simpa using e
  subst e1; subst e2; exact h3
theorem rd_take {w : World} {b off : Nat} {xs : List UInt8} (h : Rd w (some ⟨b, off, none⟩) (bs xs)) (k : Nat) : Rd w (some ⟨b, off, none⟩) (bs (xs.take k)) := by
  rcases h with h | ⟨b', o', e, hc⟩
  · have : xs = [] := by simpa [bs] using h
    subst this; exact Or.inl (by simp [bs])
  · refine Or.inr ⟨b', o', e, fun j v hv => hc j v ?_⟩
    rw [bs, List.map_take, List.getElem?_take] at hv
    split at hv
    · exact hv
    · cases hv

set_option maxHeartbeats 4000000 in
set_option maxRecDepth 100000 in
theorem tableBack_walk (a : Option Addr) (n c : Nat) (l : List Res) (w : World) (hx : RsIn w a n c l) :
    Calls Try.prog 10 #[.slice a n c] w fun e w' => e = .returned (.bool true) ∧ Keep [] w w' := by
  have hl := hx.hlen
  have hsh := hx.short
  cases hv : validR l with
  | false =>
    have E1 := Lib.hid (fun W h => by have := encode_any a n c l W h; rwa [encX, encC, hv] at this : ∀ W, RsIn W a n c l → Calls Try.prog 14 #[.slice a n c] W (GiveB W [] 80))
    have F1 := Lib.hid (fun W h => by have := lawFits_any a n c l W h; rwa [hv] at this : ∀ W, RsIn W a n c l → Calls Try.prog 28 #[.slice a n c] W fun e w' => e = .returned (.bool false) ∧ Keep [] W w')
    have V1 := Lib.hid (fun W h => by have := valid_any a n c l W h; rwa [hv] at this : ∀ W, RsIn W a n c l → Calls Try.prog 17 #[.slice a n c] W fun e w' => e = .returned (.bool false) ∧ Keep [] W w')
    clear hv hl
    go_enter Try.func10, Try.ntmps10
    go_upto_region 2 with (first
      | (go_at_call 14; refine (E1.out _ hx).mono ?_; rintro e w1 ⟨a3, n3, c3, rfl, l3, r3, f3, m3, k3⟩)
      | fail)
    have hx3 := hx.keep k3 (by simp)
    obtain rfl : n3 = 0 := l3.symm
    go_wp2_with (first
      | (go_at_call 28; refine (F1.out _ hx3).mono ?_; rintro e w4 ⟨rfl, k4⟩)
      | (go_at_call 17; refine (V1.out _ (hx3.keep k4 (by simp))).mono ?_; rintro e w5 ⟨rfl, k5⟩)
      | (go_at_call 21; refine (awake_any _).mono ?_; rintro e wH ⟨rfl, kH⟩)
      | fail)
    go_returns
    exact ⟨rfl, ((k3.trans' k4).trans' k5).trans' kH⟩
  | true =>
    obtain ⟨xs, hxs⟩ : ∃ xs, encR l = xs := ⟨_, rfl⟩
    have en := enc_of hv
    rw [hxs] at en
    have h32 := (valid_iff.1 hv).1
    have E1 := Lib.hid (fun a n c W h => encode_sl a n c l xs W h hv hxs : ∀ a n c W, RsIn W a n c l → Calls Try.prog 14 #[.slice a n c] W fun e w' => ∃ a' n' c', e = .returned (.tuple #[.slice a' n' c', .int .i64 0]) ∧ xs.length = n' ∧ Sl w' 5 1 (.slice a' n' c') n' (bs xs) ∧ Fr W [] (blks (.slice a' n' c')) ∧ Keep [] W w')
    have F1 := Lib.hid (fun W h => by have := lawFits_any a n c l W h; rwa [hv] at this : ∀ W, RsIn W a n c l → Calls Try.prog 28 #[.slice a n c] W fun e w' => e = .returned (.bool true) ∧ Keep [] W w')
    have V1 := Lib.hid (fun W h => by have := valid_any a n c l W h; rwa [hv] at this : ∀ W, RsIn W a n c l → Calls Try.prog 17 #[.slice a n c] W fun e w' => e = .returned (.bool true) ∧ Keep [] W w')
    have P1 := Lib.hid (fun a n c W h1 h2 h3 h4 => by have := parse_give a n c xs W h1 h2 h3 h4; rwa [(par_yes en.par).1, (par_yes en.par).2] at this : ∀ a n c W, xs.length = n → (a = none → c = 0) → Rd W a (bs xs) → n ≤ 140737488355328 → Calls Try.prog 32 #[.slice a n c] W (GiveP W l 0))
    have P2 := Lib.hid (fun a n c W h1 h2 h3 h4 => by have := parse_give a n c (xs ++ [0]) W h1 h2 h3 h4; rwa [(par_no en.more).1, (par_no en.more).2] at this : ∀ a n c W, (xs ++ [0]).length = n → (a = none → c = 0) → Rd W a (bs (xs ++ [0])) → n ≤ 140737488355328 → Calls Try.prog 32 #[.slice a n c] W (GiveP W [] 80))
    have P3 := Lib.hid (fun a n c W h1 h2 h3 h4 => by have := parse_give a n c (xs.take (xs.length - 1)) W h1 h2 h3 h4; rwa [(par_no en.less).1, (par_no en.less).2] at this : ∀ a n c W, (xs.take (xs.length - 1)).length = n → (a = none → c = 0) → Rd W a (bs (xs.take (xs.length - 1))) → n ≤ 140737488355328 → Calls Try.prog 32 #[.slice a n c] W (GiveP W [] 80))
    have hx1 : 1 ≤ xs.length := by have := en.len; omega
    have hx2 : xs.length ≤ 5000 := by have := en.len; omega
    have HX := Lib.hid (And.intro hx1 hx2)
    clear hv hxs en h32 hx1 hx2 hl
    go_enter Try.func10, Try.ntmps10
    go_upto_region 2 with (first
      | (go_at_call 14; refine (E1.out _ _ _ _ hx).mono ?_; rintro e w1 ⟨a3, n3, c3, rfl, l3, s3, f3, k3⟩)
      | fail)
    have hx3 := hx.keep k3 (by simp)
    have n31 : 1 ≤ n3 := by have := HX.out.1; omega
    have n32 : n3 ≤ 5000 := by have := HX.out.2; omega
    obtain ⟨g, off, rfl, -⟩ : ∃ g off, a3 = some ⟨g, off, none⟩ ∧ True := by
      rcases s3.rd with e | ⟨b, o, e, _⟩
      · have h0 : xs.length = 0 := by have := congrArg List.length e; rw [bs_length] at this; exact this
        omega
      · exact ⟨b, o, e, trivial⟩
    have hu : n3 ≤ c3 ∧ c3 ≤ 9223372036854775807 := by
      obtain ⟨a', cap, e, _, _, h1, h2, _⟩ := s3.form
      obtain ⟨_, e2⟩ : (some ⟨g, off, none⟩ : Option Addr) = a' ∧ c3 = cap := by simpa using e
      subst e2
      exact ⟨h1, by simpa [maxLen] using h2⟩
    have hm1 := hu.1
    have hm2 := hu.2
    have q0 : ((n3 : Int) == 0) = false := by simp; omega
    have HL3 := Lib.hid l3
    clear l3 hu
    go_upto_region 7 with (first
      | (go_at_call 28; refine (F1.out _ hx3).mono ?_; rintro e w4 ⟨rfl, k4⟩; have s4 := s3.keep k4 (by simp))
      | (go_at_call 32; refine (P1.out (some ⟨g, off, none⟩) n3 c3 _ HL3.out (by simp) s4.rd (by omega)).mono ?_; rintro e w5 ⟨a5, n5, c5, rfl, t5, f5, k5⟩)
      | fail)
    go_upto_region 8 with (first
      | (go_at_call 14; refine (E1.out _ _ _ _ t5).mono ?_; rintro e w7 ⟨a7, n7, c7, rfl, l7, s7, f7, k7⟩)
      | fail)
    have k47 := (k4.trans' k5).trans' k7
    have kk7 := k3.trans' k47
    have sx := s3.keep k47 (by simp)
    have t7 := t5.keep k7 (by simp)
    have hx7 := hx.keep kk7 (by simp)
    clear s3 s4 t5 hx3
    have S0 : Sl (w7.alloc (.cells #[] 5)) 5 1 (.slice (some ⟨w7.heap.size, 0, none⟩) 0 0) 0 [] := Sl.made w7 5 1 #[] 0 _ rfl rfl (by simp [maxLen])
    have k0 : Keep [] w7 (w7.alloc (.cells #[] 5)) := (Keep.refl [] w7).alloc _
    obtain ⟨G, hG⟩ : ∃ G, w7.heap.size = G := ⟨_, rfl⟩
    obtain ⟨w8, hw8⟩ : ∃ w0, w7.alloc (.cells #[] 5) = w0 := ⟨_, rfl⟩
    rw [hG] at S0
    rw [hw8] at S0 k0
    have sx8 := sx.keep k0 (by simp)
    have HG := Lib.hid hG
    have HW := Lib.hid hw8
    have HLB := Lib.hid (show (bs xs).length = n3 * 1 by rw [bs_length, HL3.out]; omega)
    clear hG hw8
    go_upto_region 9 with (first
      | (go_at_call 32; refine (P2.out a10 (n3 + 1) c10 _ (by rw [List.length_append, HL3.out]; rfl) hs10.hnil (by rw [bs_append]; exact hs10.rd) (by omega)).mono ?_; rintro e w11 ⟨a11, n11, c11, rfl, t11, f11, k11⟩)
      | (at_builtin; have hq9 := hs9; go_must (refine wpList_appendN rfl (.tmp 52) (.tmp 53) 25 rfl 5 (.int .u8 0) 1 1 Try.underlying25 info5 rfl (by omega) (.slice a9 n3 c9) n3 (bs xs) rfl (hs9.keep ((Keep.refl [] w9).alloc (.cells #[.int .u8 0] 5)) (by simp)) (some ⟨w9.heap.size, 0, none⟩) 1 1 (bs [0]) rfl rfl (by simp) (Rd.of_blk (vs' := bs [0]) (Blk.new w9 _ 5) 0 (fun k v h => by rw [Nat.zero_add]; exact h)) (bs_one [0]) (by simp only [maxLen]; omega) (by omega) ?_; intro a10 c10 w10 hs10 hk10 hf10))
      | (at_builtin; go_must (refine wpList_appendN rfl (.tmp 50) (.tmp 51) 25 rfl 5 (.int .u8 0) 1 1 Try.underlying25 info5 rfl (by omega) (.slice (some ⟨G, 0, none⟩) 0 0) 0 [] rfl S0 (some ⟨g, off, none⟩) n3 c3 (bs xs) rfl HLB.out (by simp) sx8.rd (bs_one xs) (by simp only [maxLen]; omega) (by omega) ?_; intro a9 c9 w9 hs9 hk9 hf9; rw [Nat.zero_add, List.nil_append] at hs9; rw [Nat.zero_add] at hf9))
      | (simp only [HW.out, HG.out])
      | fail)
    have hGb : ∀ b ∈ blks (.slice (some ⟨G, 0, none⟩) 0 0), w7.heap.size ≤ b := fun b hb => by
      have e : b = G := by simpa [blks, Value.ownBlock] using hb
      rw [e, ← HG.out]; exact Nat.le_refl _
    have h9b : ∀ b ∈ blks (.slice a9 n3 c9), w7.heap.size ≤ b := fun b hb => by
      rcases hf9 b hb with h | h
      · exact hGb b h
      · have := k0.size; omega
    have k711 : Keep [] w7 w11 := (((k0.trans hk9 (fun b hb => Or.inr (hGb b hb))).alloc _).trans hk10 (fun b hb => Or.inr (h9b b hb))).trans' k11
    have sxE := sx.keep k711 (by simp)
    have tE := t7.keep k711 (by simp)
    have sE := s7.keep k711 (by simp)
    have hxE := hx7.keep k711 (by simp)
    have kkE := kk7.trans' k711
    have i1 : (0 : Int) ≤ (n3 : Int) - 1 := by omega
    have i2 : (n3 : Int) - 1 ≤ c3 := by omega
    have i3 : IntKind.i64.wrap ((n3 : Int) - 1) = (n3 : Int) - 1 := IntWalk.i64_in _ (by omega)
    have i4 : ((n3 : Int) - 1).toNat = n3 - 1 := by omega
    obtain rfl : n11 = 0 := t11.hlen.symm
    clear S0 k0 sx8 hs9 hk9 hf9 hs10 hk10 hf10 hGb h9b k711 sx t7 s7 hx7 k4 k5 k7 k47
    go_upto_region 10 with (first
      | (go_at_call 32; refine (P3.out (some ⟨g, off, none⟩) (n3 - 1) c3 _ (by rw [List.length_take, HL3.out]; omega) (by simp) (rd_take sxE.rd _) (by omega)).mono ?_; rintro e w12 ⟨aF, nF, cF, rfl, tF, fF, kF⟩)
      | fail)
    have tG := tE.keep kF (by simp)
    have sG := sE.keep kF (by simp)
    have sxG := sxE.keep kF (by simp)
    have hxG := hxE.keep kF (by simp)
    go_wp2_with (first
      | (go_at_call 24; refine (like_eq a5 a n5 c5 n c l _ tG hxG).mono ?_; rintro e w13 ⟨rfl, kA⟩)
      | (go_at_call 16; refine (same_eq a7 (some ⟨g, off, none⟩) n7 c7 n3 c3 xs _ l7 (sG.keep kA (by simp)).rd HL3.out (sxG.keep kA (by simp)).rd (by have := HX.out.2; omega)).mono ?_; rintro e w14 ⟨rfl, kB⟩)
      | (go_at_call 17; refine (V1.out _ ((hxG.keep kA (by simp)).keep kB (by simp))).mono ?_; rintro e w15 ⟨rfl, kC⟩)
      | (go_at_call 21; refine (awake_any _).mono ?_; rintro e wH ⟨rfl, kH⟩)
      | fail)
    go_returns
    exact ⟨rfl, ((((kkE.trans' kF).trans' kA).trans' kB).trans' kC).trans' kH⟩
end Go.Proofs.Ytjdkeabimcajlaa

/- CodeTells: the walk. -/
import Derived.Test.YtkhplfgehcljmaaAi
set_option linter.unusedVariables false
set_option linter.unusedSimpArgs false
namespace Go.Proofs.Ytkhplfgehcljmaa
open Go.RowKit

theorem u8_xor_nat (a b : Nat) (ha : a < 256) (hb : b < 256) : bits .xor .u8 (a : Int) (b : Int) = ((a ^^^ b : Nat) : Int) := by
  have hx : a ^^^ b < 2 ^ 8 := Nat.xor_lt_two_pow (by omega) (by omega)
  have o8 : ∀ c : Nat, c < 256 → (BitVec.ofInt 8 (c : Int)).toNat = c := fun c hc => by
    rw [BitVec.ofInt_natCast, BitVec.toNat_ofNat]; exact Nat.mod_eq_of_lt (by omega)
  show IntKind.u8.wrap ((BitVec.ofInt 8 (a : Int) ^^^ BitVec.ofInt 8 (b : Int)).toNat : Int) = _
  rw [BitVec.toNat_xor, o8 a ha, o8 b hb]
  simp only [IntKind.wrap_u8]; omega
theorem pow_u8 {m : Nat} (h : m < 8) : IntKind.u8.wrap (2 ^ m) = ((2 ^ m : Nat) : Int) := by
  have : m = 0 ∨ m = 1 ∨ m = 2 ∨ m = 3 ∨ m = 4 ∨ m = 5 ∨ m = 6 ∨ m = 7 := by omega
  rcases this with rfl | rfl | rfl | rfl | rfl | rfl | rfl | rfl <;> rfl

set_option maxHeartbeats 16000000 in
set_option maxRecDepth 100000 in
theorem codeTells_walk (a : Option Addr) (n cap : Nat) (xs : List UInt8) (p bits : Int) (w : World) (hx : InBytes w a n cap xs) (hwp : (Lit.int .i64 p).wf = true) (hwb : (Lit.int .i64 bits).wf = true) :
    Calls Try.prog 11 #[.slice a n cap, .int .i64 p, .int .i64 bits] w fun e w' => e = .returned (.bool true) ∧ Keep [] w w' := by
  by_cases hn : 200000 < n
  · go_enter Try.func11, Try.ntmps11
    go_wp2_with fail
    go_returns
    exact ⟨rfl, Keep.refl _ _⟩
  by_cases hp0 : p < 0
  · go_enter Try.func11, Try.ntmps11
    go_wp2_with fail
    go_returns
    exact ⟨rfl, Keep.refl _ _⟩
  by_cases hp1 : (8 * n : Int) ≤ p
  · go_enter Try.func11, Try.ntmps11
    go_wp2_with fail
    go_returns
    exact ⟨rfl, Keep.refl _ _⟩
  by_cases hb0 : bits < 1
  · go_enter Try.func11, Try.ntmps11
    go_wp2_with fail
    go_returns
    exact ⟨rfl, Keep.refl _ _⟩
  by_cases hb1 : 4294967295 < bits
  · go_enter Try.func11, Try.ntmps11
    go_wp2_with fail
    go_returns
    exact ⟨rfl, Keep.refl _ _⟩
  obtain ⟨q, rfl⟩ : ∃ q : Nat, p = (q : Nat) := ⟨p.toNat, by omega⟩
  have hmk := mk_any n (by omega)
  have hlen := hx.hlen
  obtain ⟨G, hG⟩ : ∃ G, w.heap.size = G := ⟨_, rfl⟩
  have hG2 : w.heap.size ≤ G := by omega
  have hrd := hx.rd
  have kw : Keep [] w w := Keep.refl _ _
  go_enter Try.func11, Try.ntmps11
  go_upto_region 4 with fail
  have hB0 := Blk.new w (Array.replicate n (B8 0)) 5
  have k0 : Keep [] w (w.alloc (.cells (Array.replicate n (B8 0)) 5)) := (Keep.refl _ _).alloc _
  rw [hG] at hB0
  have hrd0 := hrd.keep k0 (by simp)
  generalize w.alloc (.cells (Array.replicate n (B8 0)) 5) = w0 at hB0 k0 hrd0 ⊢
  rw [rep_bs] at hB0
  clear hmk hG
  have HL := Lib.hid hlen
  go_upto_region 5 with (first
    | (refine wpList_copyB rfl (.tmp 37) (.tmp 38) 23 23 rfl 5 Try.underlying23 size5 (some ⟨G, 0, none⟩) a n n n cap rfl rfl G 0 (bs (List.replicate n 0)) 5 hB0 (bs xs) (by rw [bs_length, HL.out]; exact (Nat.min_self n).symm) (fun _ => rfl) hrd0 (by rw [bs_length, bs_length, HL.out]; simp) (bs_one _) ?_; intro w1 hB1 hk1 hs1)
    | fail)
  have hB2 : Blk w1 G (bs xs).toArray 5 := by
    have := hB1.out
    simpa [bs, HL.out] using this
  have k1 : Keep [] w w1 := k0.trans hk1 (by intro b hb; simp only [List.mem_singleton] at hb; subst hb; exact Or.inr hG2)
  clear hB0 k0 hrd0 hB1 hk1 hs1
  go_wp2_with fail
  go_loopw [8, 9] (fun v8 v9 wr => ∃ (k e : Nat) (ys : List UInt8), k ≤ 32 ∧ v9 = .int .i64 (k : Nat) ∧ v8 = .bool (decide (e ≠ 0)) ∧ Hid (e < 2 ^ k ∧ ys.length = n ∧ numOf ys = numOf xs ^^^ (2 ^ q * e)) ∧ Blk wr G (bs ys).toArray 5 ∧ Keep [] w wr) (fun _ v9 _ => 32 - (intOf v9).toNat)
  case atStart => exact ⟨0, 0, xs, by omega, rfl, by simp, Lib.hid ⟨by simp, HL.out, by simp⟩, hB2, k1⟩
  case round =>
    clear hB2 k1
    obtain ⟨k, e, ys, hk, rfl, rfl, HE, hB, hkw⟩ := hrel
    by_cases hlt : k < 32 ∧ q + k < 8 * n
    · obtain ⟨hl1, hl2⟩ := hlt
      have t1 : decide ((k : Int) < 32) = true := by simp; omega
      have t2 : decide ((q : Int) + k < 8 * n) = true := by simp; omega
      go_upto_region 10 with fail
      case roundEnd =>
        obtain ⟨he, hyl, hN⟩ := HE.out
        exact ⟨⟨k + 1, e, ys, by omega, by go_num, rfl, Lib.hid ⟨by rw [Nat.pow_succ]; omega, hyl, hN⟩, hB, hkw⟩, by simp [intOf]; omega⟩
      obtain ⟨i, m, hm8, hqk⟩ : ∃ i m : Nat, m < 8 ∧ 8 * i + m = q + k := ⟨(q + k) / 8, (q + k) % 8, by omega, by omega⟩
      have hiN : i < n := by omega
      have hyl := HE.out.2.1
      obtain ⟨x, hxi⟩ : ∃ x, ys[i]? = some x := ⟨ys[i], List.getElem?_eq_getElem (by omega)⟩
      have cell := hB.drew.cell (i := i) (v := B8 x) (by simp [bs, hxi])
      have free := hB.drew.free (i := i)
      have cell' : wr.cell? ⟨G, i, none⟩ = some (B8 x) := cell
      have free' : wr.frozen? ⟨G, i, none⟩ = false := free
      have i1 : ((q : Int) + k).tdiv 8 = i := by rw [Int.tdiv_eq_ediv_of_nonneg (by omega)]; omega
      have i2 : ((q : Int) + k) / 8 = i := by omega
      have i3 : ((q : Int) + k).tmod 8 = m := by rw [Int.tmod_eq_emod_of_nonneg (by omega)]; omega
      have i4 : ((q : Int) + k) % 8 = m := by omega
      have z1 : IntKind.i64.wrap ((q : Int) + k) = (q : Int) + k := IntWalk.i64_in _ (by omega)
      have z2 : IntKind.i64.wrap (i : Int) = i := IntWalk.i64_in _ (by omega)
      have z3 : IntKind.i64.wrap (m : Int) = m := IntWalk.i64_in _ (by omega)
      have HX := Lib.hid hxi
      have HQK := Lib.hid hqk
      clear hxi hqk hyl
      obtain ⟨y, hy⟩ : ∃ y, x ^^^ UInt8.ofNat (2 ^ m) = y := ⟨_, rfl⟩
      have hyn : y.toNat = x.toNat ^^^ 2 ^ m := by
        rw [← hy, UInt8.toNat_xor, UInt8.toNat_ofNat', Nat.mod_eq_of_lt (Nat.pow_lt_pow_right (by omega) hm8)]
      have hxm : Go.bits .xor .u8 (x.toNat : Int) (IntKind.u8.wrap (2 ^ m)) = (y.toNat : Int) := by
        rw [pow_u8 hm8, u8_xor_nat _ _ x.toNat_lt (Nat.pow_lt_pow_right (by omega) hm8), hyn]
      have HY := Lib.hid hyn
      clear hy hyn
      go_still_tail 19, (by kernel_rfl)
      change wpList _ _ _ _ _ wr.drew
      have hBd := hB.drew
      have hkd := hkw.drew
      clear cell' free'
      generalize wr.drew = wd at cell free hBd hkd ⊢
      clear hB hkw
      go_wp2_with fail
      obtain ⟨he, hyl, hN⟩ := HE.out
      have hbm := bit_more he
      refine ⟨⟨k + 1, e ^^^ 2 ^ k, ys.set i y, by omega, by go_num, by rw [decide_eq_true hbm.1], Lib.hid ⟨hbm.2, by rw [List.length_set]; exact hyl, turn_one hN HX.out HQK.out HY.out⟩, ?_, hkd.set (Or.inr hG2) _⟩, by simp [intOf]; omega⟩
      have hbs := hBd.set i (B8 y)
      have he2 : (bs ys).toArray.setIfInBounds i (B8 y) = (bs (ys.set i y)).toArray := by simp [bs, List.map_set]
      rw [he2] at hbs
      exact hbs
    · obtain ⟨he, hyl, hN⟩ := HE.out
      have he3 : e < 4294967296 := Nat.lt_of_lt_of_le he (Nat.pow_le_pow_right (n := 2) (by omega) hk)
      have hend : ∀ W, Keep [] w W → Blk W G (bs ys).toArray 5 → e ≠ 0 → True := fun _ _ _ _ => trivial
      have hab : e ≠ 0 → ((crc xs : Nat) : Int) ≠ (crc ys : Nat) := fun h0 h => crc_tells (by rw [hyl, HL.out]) hN h0 he3 (by rw [HL.out]; omega) (by omega)
      have ha2 : crc xs ≤ 4294967295 := by unfold crc; omega
      have hb2 : crc ys ≤ 4294967295 := by unfold crc; omega
      have C1 := Lib.hid (sum_any a n cap xs wr HL.out (by omega) (hrd.keep hkw (by simp)))
      have hC2 : ∀ W, Keep [] wr W → Calls Try.prog 14 #[.slice (some ⟨G, 0, none⟩) n n] W fun e w' => e = .returned (.int .i64 (crc ys)) ∧ Keep [] W w' := fun W k => by
        have hBW := hB.keep k (by simp)
        exact sum_any (some ⟨G, 0, none⟩) n n ys W hyl (by omega) (Rd.of_blk hBW 0 (fun k v h => by simpa using h))
      have C2 := Lib.hid hC2
      have HAB := Lib.hid hab
      obtain ⟨A, hA⟩ : ∃ A, crc xs = A := ⟨_, rfl⟩
      obtain ⟨B, hB'⟩ : ∃ B, crc ys = B := ⟨_, rfl⟩
      rw [hA] at C1 ha2 HAB
      rw [hB'] at C2 hb2 HAB
      have hcut : ¬ k < 32 ∨ k < 32 ∧ ¬ q + k < 8 * n := by omega
      clear hend hab hC2 hA hB' HE hN hyl hB he he3 hx hrd
      obtain ⟨t, ht⟩ : ∃ t, decide (e ≠ 0) = t := ⟨_, rfl⟩
      rw [ht]
      have d1 : t = true → ((A : Int) != (B : Int)) = true := fun h0 => by
        subst h0; simpa using HAB.out (by simpa using ht)
      have d2 : decide ((0 : Int) ≤ A) = true := by simp
      have d3 : decide ((0 : Int) ≤ B) = true := by simp
      have d4 : decide ((A : Int) ≤ 4294967295) = true := by simp; omega
      have d5 : decide ((B : Int) ≤ 4294967295) = true := by simp; omega
      clear ht HAB
      cases t with
      | false =>
        clear d1 d2 d3 d4 d5 C1 C2
        rcases hcut with h | ⟨h, h'⟩
        all_goals go_wp2_with (first
          | (go_at_call 18; refine (known_any _).mono ?_; rintro e w7 ⟨rfl, hk7⟩)
          | fail)
        all_goals go_returns
        all_goals exact ⟨rfl, hkw.trans' hk7⟩
      | true =>
        have d1 := d1 rfl
        rcases hcut with h | ⟨h, h'⟩
        all_goals go_upto_region 15 with (first | (go_at_call 14; refine C1.out.mono ?_; rintro e w5 ⟨rfl, hk5⟩) | fail)
        all_goals go_upto_region 16 with (first | (go_at_call 14; refine (C2.out _ hk5).mono ?_; rintro e w6 ⟨rfl, hk6⟩) | fail)
        all_goals go_wp2_with (first
          | (go_at_call 18; refine (known_any _).mono ?_; rintro e w7 ⟨rfl, hk7⟩)
          | fail)
        all_goals go_returns
        all_goals exact ⟨rfl, ((hkw.trans' hk5).trans' hk6).trans' hk7⟩
end Go.Proofs.Ytkhplfgehcljmaa

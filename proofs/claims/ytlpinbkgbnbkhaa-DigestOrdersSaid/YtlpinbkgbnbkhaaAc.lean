/- turned: new rows, each byte turned. -/
import Derived.Test.YtlpinbkgbnbkhaaAb
set_option linter.unusedVariables false
set_option linter.unusedSimpArgs false
namespace Go.Proofs.Ytlpinbkgbnbkhaa
open Go.RowKit

theorem sl_set {w : World} {e : TypeId} {g off n c j : Nat} {vs : List Value} (h : Sl w e 1 (.slice (some ⟨g, off, none⟩) n c) n vs) (hj : j < n) (v : Value) :
    Sl (w.setCell ⟨g, off + j, none⟩ v) e 1 (.slice (some ⟨g, off, none⟩) n c) n (vs.set j v) := by
  refine ⟨by rw [List.length_set]; exact h.1, ?_⟩
  rcases h.2 with ⟨h1, _⟩ | ⟨g', cap', pre, post, h1, hb, r1, r2, r3⟩
  · cases h1
  · simp only [Value.slice.injEq, Option.some.injEq, Addr.mk.injEq, and_true] at h1
    obtain ⟨⟨rfl, rfl⟩, _, rfl⟩ := h1
    have hl := h.1
    refine Or.inr ⟨g, c, pre, post, rfl, ?_, r1, by rw [List.length_set]; exact r2, r3⟩
    have := hb.set (pre.length + j) v
    have e : (pre ++ (vs ++ post)).toArray.setIfInBounds (pre.length + j) v = (pre ++ (vs.set j v ++ post)).toArray := by
      rw [List.setIfInBounds_toArray, List.set_append_right _ _ (by omega), Nat.add_sub_cancel_left, List.set_append_left _ _ (by omega)]
    rw [e] at this
    exact this
theorem sl_free {w : World} {e : TypeId} {g off n c j : Nat} {vs : List Value} (h : Sl w e 1 (.slice (some ⟨g, off, none⟩) n c) n vs) : w.frozen? ⟨g, off + j, none⟩ = false := by
  rcases h.2 with ⟨h1, _⟩ | ⟨g', cap', pre, post, h1, hb, r1, r2, r3⟩
  · cases h1
  · simp only [Value.slice.injEq, Option.some.injEq, Addr.mk.injEq, and_true] at h1
    obtain ⟨⟨rfl, rfl⟩, _, rfl⟩ := h1
    exact hb.free
theorem u8_xor_nat (a b : Nat) (ha : a < 256) (hb : b < 256) : bits .xor .u8 (a : Int) (b : Int) = ((a ^^^ b : Nat) : Int) := by
  have hx : a ^^^ b < 2 ^ 8 := Nat.xor_lt_two_pow (by omega) (by omega)
  have o8 : ∀ c : Nat, c < 256 → (BitVec.ofInt 8 (c : Int)).toNat = c := fun c hc => by
    rw [BitVec.ofInt_natCast, BitVec.toNat_ofNat]; exact Nat.mod_eq_of_lt (by omega)
  show IntKind.u8.wrap ((BitVec.ofInt 8 (a : Int) ^^^ BitVec.ofInt 8 (b : Int)).toNat : Int) = _
  rw [BitVec.toNat_xor, o8 a ha, o8 b hb]
  simp only [IntKind.wrap_u8]; omega
def turnB (x : UInt8) : UInt8 := x ^^^ 21
theorem turn_bits (x : UInt8) : bits .xor .u8 (x.toNat : Int) 21 = ((turnB x).toNat : Int) := by
  have := u8_xor_nat x.toNat 21 x.toNat_lt (by omega)
  rw [turnB, UInt8.toNat_xor]; exact this
/-- The rows are there. -/
def RowsC (w : World) (k : Nat) (vs : List Value) (zss : List (List UInt8)) : Prop := ∀ i x, i < k → zss[i]? = some x → ∃ a c, vs[i]? = some (.slice a x.length c) ∧ Sl w 5 1 (.slice a x.length c) x.length (bs x)
theorem RowsC.keep {w w' : World} {k : Nat} {S : List Nat} {vs : List Value} {xss : List (List UInt8)} (h : RowsC w k vs xss) (hk : Keep S w w') (hS : ∀ v ∈ vs, ∀ b ∈ blks v, b ∉ S) : RowsC w' k vs xss := fun i x hi hx => by
  obtain ⟨a, c, h1, h2⟩ := h i x hi hx
  exact ⟨a, c, h1, Sl.keep h2 hk (fun b hb => hS _ (List.mem_of_getElem? h1) b hb)⟩
theorem RowsC.add {w : World} {k : Nat} {vs : List Value} {xss : List (List UInt8)} {x : List UInt8} {a : Option Addr} {c : Nat} (h : RowsC w k vs xss) (hl : vs.length = k) (hx : xss[k]? = some x) (hr : Sl w 5 1 (.slice a x.length c) x.length (bs x)) : RowsC w (k + 1) (vs ++ [.slice a x.length c]) xss := fun i y hi hy => by
  by_cases hik : i = k
  · subst hik
    rw [hx] at hy; cases hy
    exact ⟨a, c, by rw [List.getElem?_append_right (by omega), hl, Nat.sub_self]; rfl, hr⟩
  · obtain ⟨a', c', h1, h2⟩ := h i y (by omega) hy
    exact ⟨a', c', by rw [List.getElem?_append_left (by omega)]; exact h1, h2⟩

theorem half_next {x : List UInt8} {j : Nat} {y : UInt8} (h : x[j]? = some y) : ((x.take j).map turnB ++ x.drop j).set j (turnB y) = (x.take (j + 1)).map turnB ++ x.drop (j + 1) := by
  have hj : j < x.length := (List.getElem?_eq_some_iff.1 h).1
  have hl : ((x.take j).map turnB).length = j := by rw [List.length_map, List.length_take]; omega
  have hd : x.drop j = y :: x.drop (j + 1) := by
    rw [List.drop_eq_getElem_cons hj]; congr 1; exact (List.getElem?_eq_some_iff.1 h).2
  rw [List.set_append_right _ _ (by omega), hl, Nat.sub_self, hd, List.set_cons_zero, List.take_add_one, h]
  simp
theorem half_at {x : List UInt8} {j : Nat} {y : UInt8} (h : x[j]? = some y) : (bs ((x.take j).map turnB ++ x.drop j))[j]? = some (B8 y) := by
  have hj : j < x.length := (List.getElem?_eq_some_iff.1 h).1
  have hl : ((x.take j).map turnB).length = j := by rw [List.length_map, List.length_take]; omega
  have : ((x.take j).map turnB ++ x.drop j)[j]? = some y := by
    rw [List.getElem?_append_right (by omega), hl, Nat.sub_self, List.getElem?_drop]; simpa using h
  unfold bs
  rw [List.getElem?_map, this]; rfl

set_option maxHeartbeats 4000000 in
set_option maxRecDepth 100000 in
theorem turnedRows_any (a : Option Addr) (len cap : Nat) (xss : List (List UInt8)) (w : World) (hx : InRows w a len cap xss) (ht : totR xss + len ≤ 3000000) :
    Calls Try.prog 19 #[.slice a len cap] w fun e w' => ∃ a' c' vs, e = .returned (.slice a' len c') ∧ Gath w.heap.size w' a' len c' vs ∧ RowsC w' len vs (xss.map (·.map turnB)) ∧ Keep [] w w' := by
  have g0 : Gath w.heap.size w none 0 0 [] := ⟨Sl.nil _ _ _, by simp, by simp, by simp, by simp, by intro b hb; simp [blks, Value.ownBlock] at hb⟩
  have HL := Lib.hid hx.hlen
  obtain ⟨base, hbase⟩ : ∃ G, w.heap.size = G := ⟨_, rfl⟩
  have HB := Lib.hid hbase
  rw [hbase] at g0 ⊢
  clear hbase
  go_enter Try.func19, Try.ntmps19
  go_wp2_with fail
  go_loopw [3, 4] (fun v3 v4 wr => ∃ (k : Nat) (a' : Option Addr) (c' : Nat) (vs : List Value), k ≤ len ∧ v4 = .int .i64 (k : Nat) ∧ v3 = .slice a' k c' ∧ Gath base wr a' k c' vs ∧ RowsC wr k vs (xss.map (·.map turnB)) ∧ Keep [] w wr) (fun _ v4 _ => len - (intOf v4).toNat)
  case atStart => exact ⟨0, none, 0, [], by omega, rfl, rfl, g0, fun i x hi => by omega, Keep.refl _ _⟩
  case round =>
    clear g0
    obtain ⟨k, a', c', vs, hk, rfl, rfl, hG, hR, hkw⟩ := hrel
    by_cases hlt : k < len
    · obtain ⟨x, b, off, ai, li, ci, hc, rfl, d0, hin⟩ := (hx.keep hkw).at hlt
      have hl2 := hin.hlen
      have hle : li ≤ 3000000 := by
        have h1 := totR_take hc
        have h2 := totR_le xss (k + 1)
        omega
      have S0 : Sl (wr.alloc (.cells #[] 5)) 5 1 (.slice (some ⟨wr.heap.size, 0, none⟩) 0 0) 0 [] := Sl.made wr 5 1 #[] 0 _ rfl rfl (by simp [maxLen])
      have k0 : Keep [] wr (wr.alloc (.cells #[] 5)) := (Keep.refl [] wr).alloc _
      have hin0 := hin.keep k0 (by simp)
      have d1 := k0.cell d0 (by simp)
      have HC := Lib.hid hc
      have HX := Lib.hid hl2
      clear hc hl2
      go_upto_region 6 with (first
        | (at_builtin; go_must (refine wpList_appendN rfl (.tmp 13) (.tmp 17) 29 rfl 5 (.int .u8 0) 1 1 Try.underlying29 info5 rfl (by omega) (.slice (some ⟨wr.heap.size, 0, none⟩) 0 0) 0 [] rfl S0 ai li ci (bs x) rfl (by rw [bs_length, HX.out, Nat.mul_one]) hin0.hnil hin0.rd (bs_one x) (by simp only [maxLen]; omega) (by omega) ?_; intro a1 c1 w1 hs1 hk1 hf1))
        | fail)
      rw [List.nil_append, Nat.zero_add] at hs1
      simp only [Nat.zero_add] at hf1
      have k1 : Keep [] wr w1 := k0.trans hk1 (fun b hb => Or.inr (by simp [blks, Value.ownBlock] at hb; omega))
      have f1 : ∀ b ∈ blks (.slice a1 li c1), wr.heap.size ≤ b := fun b hb => by
        rcases hf1 b hb with h1 | h1
        · simp [blks, Value.ownBlock] at h1; omega
        · have := k0.size; omega
      clear S0 k0 hk1 hf1 hin0 hin
      go_wp2_with fail
      go_loopw [6] (fun v6 wx => ∃ j : Nat, j ≤ li ∧ v6 = .int .i64 (j : Nat) ∧ Sl wx 5 1 (.slice a1 li c1) li (bs ((x.take j).map turnB ++ x.drop j)) ∧ Keep [] wr wx) (fun v6 _ => li - (intOf v6).toNat)
      case atStart => exact ⟨0, by omega, rfl, by simpa using hs1, k1⟩
      case round =>
        clear hs1 k1
        obtain ⟨j, hj, rfl, hS, hk1⟩ := hrel
        by_cases hjl : j < li
        · obtain ⟨y, hy⟩ : ∃ y, x[j]? = some y := ⟨x[j]'(by rw [HX.out]; exact hjl), List.getElem?_eq_getElem _⟩
          obtain ⟨g, o, rfl⟩ : ∃ g o, a1 = some ⟨g, o, none⟩ := by
            have h1 := (Sl.use hS).2.2.2.1
            rcases Sl.parts hS with ⟨h6, h7⟩ | h6
            · omega
            · exact h6
          have cell : wr.cell? ⟨g, o + j, none⟩ = some (B8 y) := by
            have h1 := (Sl.use hS).2.2.1
            rcases h1 with h2 | ⟨b', o', e, h2⟩
            · have h3 := half_at hy
              rw [h2] at h3; simp at h3
            · cases e; exact h2 j _ (half_at hy)
          have free := sl_free (j := j) hS
          have hS2 := sl_set hS hjl (B8 (turnB y))
          have he : (bs ((x.take j).map turnB ++ x.drop j)).set j (B8 (turnB y)) = bs ((x.take (j + 1)).map turnB ++ x.drop (j + 1)) := by
            rw [← half_next hy]; simp [bs, List.map_set]
          rw [he] at hS2
          have hb := turn_bits y
          have hk2 : Keep [] _ (wr.setCell ⟨g, o + j, none⟩ (B8 (turnB y))) := hk1.set (a := ⟨g, o + j, none⟩) (Or.inr (f1 g (by simp [blks, Value.ownBlock]))) (B8 (turnB y))
          have HY := Lib.hid hy
          clear hy he
          go_wp2_with fail
          exact ⟨⟨j + 1, by omega, by go_num, hS2, hk2⟩, by simp [intOf]; omega⟩
        · obtain rfl : j = li := by omega
          have hmap : bs ((x.take j).map turnB ++ x.drop j) = bs (x.map turnB) := by
            rw [List.take_of_length_le (by rw [HX.out]; exact Nat.le_refl _), List.drop_of_length_le (by rw [HX.out]; exact Nat.le_refl _), List.append_nil]
          rw [hmap] at hS
          have hS1 := hG.own.keep hk1 (by simp)
          have hlt1 := hS.lt
          have hG1 := hG
          clear hmap
          go_wp2_with (first
            | (at_builtin; go_must (refine wpList_append1 wr rfl (.tmp 33) (.tmp 35) 22 rfl 29 (.slice none 0 0) 24 Try.underlying22 info29 rfl (.slice a1 j c1) rfl (.slice a' k c') k vs rfl hS1 rfl (by simp only [maxLen]; omega) (by omega) ?_; intro a2 c2 w6 hs6 hk6 hf6))
            | fail)
          have hG6 := hG.add (v := .slice a1 j c1) (by rw [← HB.out]; exact hkw.size) f1 hlt1 hk1 hs6 hk6 hf6
          have hS6 : ∀ v ∈ vs ++ [Value.slice a1 j c1], ∀ b ∈ blks v, b ∉ blks (.slice a' k c') := by
            intro v hv b hb hb'
            rcases List.mem_append.1 hv with h1 | h1
            · exact hG.out v h1 b hb hb'
            · simp only [List.mem_singleton] at h1; subst h1
              have := f1 b hb; have := hG.own.lt b hb'; omega
          have hln : (x.map turnB).length = j := by rw [List.length_map]; exact HX.out
          have hR6 : RowsC w6 (k + 1) (vs ++ [.slice a1 j c1]) (xss.map (·.map turnB)) := by
            have h1 := RowsC.add (hR.keep hk1 (by simp)) hG.len (x := x.map turnB) (by simp [HC.out]) (a := a1) (c := c1) (by rw [hln]; exact hS)
            rw [hln] at h1
            exact h1.keep hk6 hS6
          exact ⟨⟨k + 1, a2, c2, _, by omega, by go_num, rfl, hG6, hR6, (hkw.trans' hk1).trans hk6 (fun b hb => Or.inr (by have := hG.since' b hb; have := HB.out; omega))⟩, by simp [intOf]; omega⟩
    · obtain rfl : k = len := by omega
      go_wp2_with fail
      go_returns
      exact ⟨a', c', vs, rfl, hG, hR, hkw⟩
end Go.Proofs.Ytlpinbkgbnbkhaa

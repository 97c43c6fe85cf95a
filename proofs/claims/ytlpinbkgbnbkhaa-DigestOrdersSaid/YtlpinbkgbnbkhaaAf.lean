/- DigestOf: the walk. -/
import Derived.Test.YtlpinbkgbnbkhaaAe
import Derived.Test.YtlpinbkgbnbkhaaV
set_option linter.unusedVariables false
set_option linter.unusedSimpArgs false
namespace Go.Proofs.Ytlpinbkgbnbkhaa
open Go.RowKit

theorem same33 (xs : List UInt8) (hx : xs.length = 32) (w : World) : (Op.equalIn 10000 33 (.agg (bs xs).toArray) (.agg (bs xs).toArray)).run Try.prog w = .ok true w := by
  have h := run_equalIn_bytes (P := Try.prog) w 9998 33 5 32 Try.underlying33 Try.underlying5 (fun w => Try.sizeOf5 w) xs xs hx hx
  have e : (xs == xs) = true := by simp
  rw [e] at h
  exact h
/-- One half of the law: the id of the rows is the document's of all of them. -/
theorem both_of {base : Nat} {w : World} {p b : Option Addr} {n c cap : Nat} {vs : List Value} {xss : List (List UInt8)} (wd : Int) (hG : Gath base w p (n + 3) c vs) (hR : RoomyAt w n vs xss) (hM : MarksAt w n vs 3) (hx : InRows w b n cap xss) (ht : totR xss + n ≤ 3000000) :
    ∃ D : Array Value, (∀ W, (Op.equalIn 10000 33 (.agg D) (.agg D)).run Try.prog W = .ok true W) ∧ (∀ W, Keep [] w W → Calls Try.prog 21 #[.int .i64 wd, .slice p n c] W fun e w' => e = .returned (.agg D) ∧ Keep [] W w') ∧
      (∀ W, Keep [] w W → Calls Try.prog 17 #[.slice b n cap] W fun e w' => ∃ a' m c', e = .returned (.slice a' m c') ∧ Keep [] W w' ∧ Hid (∀ W', Keep [] w' W' → Calls Try.prog 22 #[.int .i64 wd, .slice a' m c'] W' fun e w'' => e = .returned (.agg D) ∧ Keep [] W' w'')) ∧
      (∀ W, Keep [] w W → Calls Try.prog 18 #[.slice p n c, .slice b n cap] W fun e w' => e = .returned (.bool true) ∧ Keep [] W w') := by
  have hs : ∀ x ∈ xss, x.length ≤ 3000000 := fun x h => by have := totR_mem h; omega
  refine ⟨(bs (shaId wd xss.flatten)).toArray, fun W => same33 _ (shaId_length _ _) W, fun W k => ?_, fun W k => ?_, fun W k => ?_⟩
  · exact of_any wd p n c (vs.take n) xss W ((roomy_rows hG hR hx.hlen hs).keep k) (by omega)
  · refine (joined_any b n cap xss W (hx.keep k) (by omega)).mono ?_
    rintro e w' ⟨a', m, c', rfl, hm, hsl, hf, hk⟩
    have hm3 : m ≤ 3000000 := by rw [hm, flatten_len]; omega
    exact ⟨a', m, c', rfl, hk, Lib.hid (fun W' k' => refOf_any wd xss.flatten m c' a' W' ((sl_bytes hsl hm3).keep k' (by simp)) (by omega))⟩
  · exact untouched_any base p n c xss b cap W ⟨vs, hG.keep k, hR.keep k (by simp), hM.keep k (by simp)⟩ (hx.keep k) ht

set_option maxHeartbeats 8000000 in
set_option maxRecDepth 100000 in
theorem digestOf_walk (wd : Int) (a : Option Addr) (n cap : Nat) (xss : List (List UInt8)) (w : World) (hwd : (Lit.int .i64 wd).wf = true) (hx : InRows w a n cap xss) :
    Calls Try.prog 4 #[.int .i64 wd, .slice a n cap] w fun e w' => e = .returned (.bool true) ∧ Keep [] w w' := by
  have C1 := much_any a n cap xss w hx
  have hzl : (xss.map (·.map turnB)).length = n := by rw [List.length_map]; exact hx.hlen
  have hlen : ∀ (i : Nat) (x z : List UInt8), xss[i]? = some x → (xss.map (·.map turnB))[i]? = some z → z.length = x.length := fun i x z h1 h2 => by
    rw [List.getElem?_map, h1] at h2
    cases h2; simp
  have hzt := totR_turn xss
  obtain ⟨zss, hzss⟩ : ∃ zss, xss.map (·.map turnB) = zss := ⟨_, rfl⟩
  have HT := Lib.hid (fun (W : World) (hx : InRows W a n cap xss) (ht : totR xss + n ≤ 3000000) => turnedRows_any a n cap xss W hx ht)
  rw [hzss] at hzl hlen hzt HT
  have HZL := Lib.hid hzl
  have HLEN := Lib.hid hlen
  have HZT := Lib.hid hzt
  clear hzss hzl hlen hzt
  go_enter Try.func4, Try.ntmps4
  go_wp2_with (first
    | (go_at_call 12; refine C1.mono ?_; rintro e w1 ⟨mb, rfl, rfl, hmb⟩; clear C1)
    | fail)
  · refine (known_any _).mono ?_
    rintro e w3 ⟨rfl, hk3⟩
    go_wp2_with fail
    go_returns
    exact ⟨rfl, hk3⟩
  · have ht : totR xss + n ≤ 3000000 := hmb (by first | rfl | assumption | simp_all)
    refine (roomy_any a n cap xss _ hx ht).mono ?_
    rintro e w2 ⟨p, c2, rfl, ⟨vs, hG, hR, hM⟩, hk2⟩
    obtain ⟨D, FE, F15, F17, F18⟩ := both_of wd hG hR hM (hx.keep hk2) ht
    have F15 := Lib.hid F15
    have F17 := Lib.hid F17
    have F18 := Lib.hid F18
    go_upto_region 6 with (first
      | (go_at_call 13; refine (known_any _).mono ?_; rintro e w3 ⟨rfl, hk3⟩)
      | (go_at_call 21; refine (F15.out _ hk3).mono ?_; rintro e w4 ⟨rfl, hk4⟩; have kk4 := hk3.trans' hk4)
      | (go_at_call 17; refine (F17.out _ kk4).mono ?_; rintro e w5 ⟨a5, m5, c5, rfl, hk5, F16⟩; have kk5 := kk4.trans' hk5)
      | (go_at_call 22; refine (F16.out _ (Keep.refl _ _)).mono ?_; rintro e w6 ⟨rfl, hk6⟩; have kk6 := kk5.trans' hk6)
      | (go_at_call 18; refine (F18.out _ kk6).mono ?_; rintro e w7 ⟨rfl, hk7⟩; have kk7 := kk6.trans' hk7)
      | fail)
    clear F15 F16 F17 F18 FE hk3 hk4 hk5 hk6 hk7 kk4 kk5 kk6
    have kw7 := hk2.trans' kk7
    have C2 := Lib.hid (HT.out w7 (hx.keep kw7) ht)
    have hG7 := hG.keep kk7
    have hR7 := hR.keep kk7 (by simp)
    have hM7 := hM.keep kk7 (by simp)
    go_upto_region 7 with (first
      | (go_at_call 19; refine C2.out.mono ?_; rintro e w8 ⟨b, c8, vs2, rfl, hG2, hR2, hk8⟩)
      | fail)
    have kw8 := kw7.trans' hk8
    have C3 := Lib.hid (writeOver_any _ w7.heap.size p b n c2 c8 vs vs2 xss zss w8 (hG7.keep hk8) (hR7.keep hk8 (by simp)) (hM7.keep hk8 (by simp)) hG2 hR2 hG7.lt hG7.own.lt hx.hlen HZL.out HLEN.out (by omega))
    go_upto_region 8 with (first
      | (go_at_call 20; refine C3.out.mono ?_; rintro e w9 ⟨rfl, hG9, hR9, hM9, hG29, hR29, hk9⟩)
      | fail)
    have kw9 : Keep [] w1 w9 := kw8.trans hk9 (fun b hb => by
      obtain ⟨v, hv, hb2⟩ := List.mem_flatMap.1 hb
      exact Or.inr (hG.since v hv b hb2))
    have hzt := HZT.out
    have hin9 := rowsC_in hG29 hR29 HZL.out (fun x h => by have := totR_mem h; omega)
    obtain ⟨D, FE, F15, F17, F18⟩ := both_of wd hG9 hR9 hM9 hin9 (by omega)
    have F15 := Lib.hid F15
    have F17 := Lib.hid F17
    have F18 := Lib.hid F18
    clear C2 C3 hG7 hR7 hM7 hG2 hR2 hk8 hG9 hR9 hM9 hG29 hR29 hk9 hzt
    go_wp2_with (first
      | (go_at_call 21; refine (F15.out _ (Keep.refl _ _)).mono ?_; rintro e w4 ⟨rfl, hk4⟩)
      | (go_at_call 17; refine (F17.out _ hk4).mono ?_; rintro e w5 ⟨a5, m5, c5, rfl, hk5, F16⟩; have kk5 := hk4.trans' hk5)
      | (go_at_call 22; refine (F16.out _ (Keep.refl _ _)).mono ?_; rintro e w6 ⟨rfl, hk6⟩; have kk6 := kk5.trans' hk6)
      | (go_at_call 18; refine (F18.out _ kk6).mono ?_; rintro e w7 ⟨rfl, hk7⟩; have kk7 := kk6.trans' hk7)
      | fail)
    go_returns
    exact ⟨rfl, kw9.trans' kk7⟩
end Go.Proofs.Ytlpinbkgbnbkhaa

/- Join: two tables joined. -/
import Derived.Test.YtjdkeabimcajlaaJs
set_option linter.unusedVariables false
set_option linter.unusedSimpArgs false
namespace Go.Proofs.Ytjdkeabimcajlaa
open Go.RowKit
attribute [local go_sem ↓] Go.wp_at_zero Go.wp_at_succ eql_res

theorem wpList_lookupWays {ops : Array Oper} {rest : List Oper} {o : Oper} {a : Act} {w : World} {Q : Exit → Act → World → Prop} (hgd : o.guard = none) (m x : Operand) (ho : o.op = .lookup 81 m x false) (r : Nat) (k : Int) (v : Value)
    (hm : a.eval m = .map (some r)) (hx : a.eval x = .int .i64 k) (hw : WaysAt w r) (hv : wayV k = v)
    (h : wpList Try.prog ops Q rest (a.put o.dst v) w) : wpList Try.prog ops Q (o :: rest) a w := by
  refine wpList_plain hgd fun K hK => ?_
  unfold Oper.wp execOp
  simp only [ho, hm, hx, run_ways hw, hv, Sem.run_bind, Sem.run_pure, Result.andThen_ok]
  exact hK _ _ h
theorem way_none {how : Int} (h : ¬ knownHow how) : wayV how = .nilFunc := by
  unfold knownHow at h
  have h1 : ¬ (how = 1 ∨ how = 3) := by omega
  have h2 : ¬ how = 2 := by omega
  rw [wayV, wayOf, if_neg h1, if_neg h2]
theorem way_some {how : Int} (h : knownHow how) : ∃ f, wayV how = .func (.func f) #[] #[] ∧ (∀ (args : Array Value) (w : World), (callFunc f args).run Try.prog w = .ok (.enter f args) w) ∧
    ∀ x y w, Calls Try.prog f #[.agg x.cells.toArray, .agg y.cells.toArray] w fun e w' => e = .returned (.agg (pickR how x y).cells.toArray) ∧ Keep [] w w' := by
  by_cases h2 : how = 2
  · refine ⟨64, by rw [wayV, wayOf, if_neg (by omega), if_pos h2], fun _ _ => rfl, fun x y w => ?_⟩
    rw [pickR, if_pos h2]; exact second_any x y w
  · have h1 : how = 1 ∨ how = 3 := by unfold knownHow at h; omega
    refine ⟨63, by rw [wayV, wayOf, if_pos h1], fun _ _ => rfl, fun x y w => ?_⟩
    rw [pickR, if_neg h2]; exact first_any x y w

def slLen : Value → Nat | .slice _ n _ => n | _ => 0
theorem after_alloc {w : World} {e t : TypeId} {sz : Nat} {v : Value} {n : Nat} {vs cs : List Value} (s : Sl w e sz v n vs) :
    Sl (w.alloc (.cells cs.toArray t)) e sz v n vs ∧ Rd (w.alloc (.cells cs.toArray t)) (some ⟨w.heap.size, 0, none⟩) cs ∧ Keep [] w (w.alloc (.cells cs.toArray t)) :=
  ⟨s.keep ((Keep.refl [] w).alloc _) (by simp), Rd.of_blk (Blk.new w _ t) 0 (fun j v hj => by rw [Nat.zero_add]; exact hj), (Keep.refl [] w).alloc _⟩
theorem nlt {a : Int} (h : 0 ≤ a) : ¬ a < 0 := by omega
theorem pick_same {how : Int} {x y : Res} (h : x = y) : pickR how x y = x := by subst h; unfold pickR; split <;> rfl
theorem RsIn.tail1 {w : World} {b off n c : Nat} {x : Res} {l : List Res} (h : RsIn w (some ⟨b, off, none⟩) n c (x :: l)) : RsIn w (if c = 1 then some ⟨b, off, none⟩ else some ⟨b, off + 65, none⟩) (n - 1) (c - 1) l := by
  have hl := h.hlen
  obtain ⟨k, rfl⟩ : ∃ k, n = k + 1 := ⟨n - 1, by simp at hl; omega⟩
  simpa using h.tail

set_option maxHeartbeats 12000000 in
set_option maxRecDepth 100000 in
theorem join_any (a b : Option Addr) (n c p d : Nat) (l m : List Res) (how : Int) (w : World) (hl : RsIn w a n c l) (hm : RsIn w b p d m) :
    Calls Try.prog 25 #[.slice a n c, .slice b p d, .int .i64 how] w (GiveJ w (joinT how l m) (joinI how l m) (joinC how l m)) := by
  by_cases hh : knownHow how
  case neg =>
    obtain ⟨g1, g2, g3⟩ := join_how (l := l) (m := m) hh
    rw [g1, g2, g3]
    have hw := way_none hh
    have HWAY := Lib.hid hw
    have hqn : ∀ W, (binOp .eql 80 .nilFunc .nilFunc).run Try.prog W = .ok (.bool true) W := fun W => rfl
    clear hw g1 g2 g3 hh
    go_enter Try.func25, Try.ntmps25
    go_wp2_with (first
      | (go_at_call 48; refine (choices_any _).mono ?_; rintro e w1 ⟨r, rfl, hr1, hr2, k1⟩)
      | (refine wpList_lookupWays rfl (.tmp 14) (.tmp 15) rfl _ how .nilFunc rfl rfl hr1 HWAY.out ?_)
      | fail)
    go_returns
    exact GiveJ.none k1
  obtain ⟨f, hw, hcall, hf⟩ := way_some hh
  have HWAY := Lib.hid hw
  have HFC := Lib.hid hf
  have HK := Lib.hid hh
  have hqf : ∀ W, (binOp .eql 80 (.func (.func f) #[] #[]) .nilFunc).run Try.prog W = .ok (.bool false) W := fun W => rfl
  clear hw hf hh
  by_cases hv : validR l = true ∧ validR m = true
  case neg =>
    obtain ⟨g1, g2, g3⟩ := join_bad HK.out hv
    rw [g1, g2, g3]
    clear g1 g2 g3
    cases hv1 : validR l with
    | false =>
      have HV := Lib.hid hv1
      clear hv1 hv
      go_enter Try.func25, Try.ntmps25
      go_wp2_with (first
        | (go_at_call 48; refine (choices_any _).mono ?_; rintro e w1 ⟨r, rfl, hr1, hr2, k1⟩; have hl1 := hl.keep k1 (by simp))
        | (refine wpList_lookupWays rfl (.tmp 14) (.tmp 15) rfl _ how (.func (.func f) #[] #[]) rfl rfl hr1 HWAY.out ?_)
        | (go_at_call 17; refine (valid_any a n c l _ hl1).mono ?_; rintro e w2 ⟨rfl, k2⟩; rw [HV.out])
        | fail)
      go_returns
      exact GiveJ.none (k1.trans' k2)
    | true =>
      have hv2 : validR m = false := by cases h2 : validR m with | false => rfl | true => exact absurd ⟨hv1, h2⟩ hv
      have HV := Lib.hid hv1
      have HV2 := Lib.hid hv2
      clear hv1 hv2 hv
      go_enter Try.func25, Try.ntmps25
      go_upto_region 4 with (first
        | (go_at_call 48; refine (choices_any _).mono ?_; rintro e w1 ⟨r, rfl, hr1, hr2, k1⟩; have hl1 := hl.keep k1 (by simp); have hm1 := hm.keep k1 (by simp))
        | (refine wpList_lookupWays rfl (.tmp 14) (.tmp 15) rfl _ how (.func (.func f) #[] #[]) rfl rfl hr1 HWAY.out ?_)
        | fail)
      go_wp2_with (first
        | (go_at_call 17; refine (valid_any b p d m _ hm2).mono ?_; rintro e w3 ⟨rfl, k3⟩; rw [HV2.out])
        | (go_at_call 17; refine (valid_any a n c l _ hl1).mono ?_; rintro e w2 ⟨rfl, k2⟩; rw [HV.out]; have hm2 := hm1.keep k2 (by simp))
        | fail)
      go_returns
      exact GiveJ.none ((k1.trans' k2).trans' k3)
  obtain ⟨hv1, hv2⟩ := hv
  have HV := Lib.hid hv1
  have HV2 := Lib.hid hv2
  obtain ⟨l32, lok⟩ : l.length ≤ 32 ∧ okTo l l.length = true := by simpa [validR] using hv1
  obtain ⟨m32, mok⟩ : m.length ≤ 32 ∧ okTo m m.length = true := by simpa [validR] using hv2
  have hll := hl.hlen
  have hml := hm.hlen
  have n32 : n ≤ 32 := by omega
  have p32 : p ≤ 32 := by omega
  clear hv1 hv2 l32 lok m32 mok hll hml
  go_enter Try.func25, Try.ntmps25
  go_upto_region 4 with (first
    | (go_at_call 48; refine (choices_any _).mono ?_; rintro e w1 ⟨r, rfl, hr1, hr2, k1⟩; have hl1 := hl.keep k1 (by simp); have hm1 := hm.keep k1 (by simp))
    | (refine wpList_lookupWays rfl (.tmp 14) (.tmp 15) rfl _ how (.func (.func f) #[] #[]) rfl rfl hr1 HWAY.out ?_)
    | fail)
  go_upto_region 6 with (first
    | (go_at_call 17; refine (valid_any b p d m _ hm2).mono ?_; rintro e w3 ⟨rfl, k3⟩; rw [HV2.out])
    | (go_at_call 17; refine (valid_any a n c l _ hl1).mono ?_; rintro e w2 ⟨rfl, k2⟩; rw [HV.out]; have hm2 := hm1.keep k2 (by simp))
    | fail)
  have k123 := (k1.trans' k2).trans' k3
  clear hl1 hm1 hm2 hr1 hr2 k1 k2 k3
  go_wp2_with fail
  go_loopw [0, 1, 10, 11] (fun v0 v1 v10 v11 wr => JI w how l m v0 v1 v10 v11 wr) (fun v0 v1 _ _ _ => slLen v0 + slLen v1)
  case atStart => exact ⟨l, m, [], [], a, b, none, none, n, c, p, d, 0, 0, 0, 0, rfl, rfl, rfl, rfl, hl, hm, ⟨rfl, rfl, Sl.nil _ _ _, Sl.nil _ _ _, by intro b hb; simp [blks, Value.ownBlock] at hb, by intro b hb; simp [blks, Value.ownBlock] at hb, by intro b hb; simp [blks, Value.ownBlock] at hb, k123⟩, by simp, by simp, by omega, by omega⟩
  case round =>
    clear k123
    obtain ⟨L, M, O, K, a0, a1, ao, ak, n0, c0, n1, c1, nO, co, nK, ck, rfl, rfl, rfl, rfl, hL, hM, js, hJ1, hJ2, hb1, hb2⟩ := hrel
    have HJ := Lib.hid (And.intro hJ1 hJ2)
    clear hJ1 hJ2
    have hlL := hL.hlen
    have hlM := hM.hlen
    by_cases hend : L = [] ∨ M = []
    ·
      have HJO : O ++ L ++ M = joinO how l m := by
        rw [← HJ.out.1, List.append_assoc]
        rcases hend with rfl | rfl
        · rw [joinO_nil]; rfl
        · rw [joinO_end]; simp
      have HJK : K = joinK l m := by
        rw [← HJ.out.2]
        rcases hend with rfl | rfl
        · rw [joinK_nil]; simp
        · rw [joinK_end]; simp
      have hz : n0 = 0 ∨ n1 = 0 := by
        rcases hend with rfl | rfl
        · left; simpa using hlL.symm
        · right; simpa using hlM.symm
      have hTl : (joinO how l m).length = nO + n0 + n1 := by rw [← HJO, List.length_append, List.length_append, js.hO, hlL, hlM]
      have hKl : (joinK l m).length = nK := by rw [← HJK, js.hK]
      have hLr := hL.keep js.k (by simp)
      have HE := Lib.hid (And.intro HJO (And.intro HJK (And.intro hTl hKl)))
      have HVV := Lib.hid (And.intro HV.out HV2.out)
      have hl2 : (cellsOf L).length = n0 * 65 := by rw [cellsOf_len, hlL]
      have hm2 : (cellsOf M).length = n1 * 65 := by rw [cellsOf_len, hlM]
      have HLM := Lib.hid (And.intro hl2 (And.intro hm2 (And.intro hlL hlM)))
      clear HJO HJK hTl hKl hend hlL hlM hl2 hm2
      by_cases hz0 : n0 = 0
      · have i0 : ¬ (0 : Int) < n0 := by omega
        clear hz0 hz
        by_cases hk0 : how = 3 ∧ joinK l m ≠ []
        · have HG := Lib.hid (join_clash HK.out HVV.out hk0)
          have q3 : (how == 3) = true := by simp [hk0.1]
          have qk : (0 : Int) < nK := by have := List.length_pos_iff.2 hk0.2; have := HE.out.2.2.2; omega
          clear hk0
          go_wp2_with (first
            | (at_builtin; refine wpList_appendN rfl (.tmp 86) (.tmp 87) 22 rfl 39 (.agg Try.zeroCells39) 65 72 Try.underlying22 info39 zero39 (by omega) (.slice ao nO co) nO (cellsOf O) rfl js.so a0 n0 c0 (cellsOf L) rfl HLM.out.1 hLr.hnil hLr.rd (cellsOf_all L) (by simp only [maxLen]; omega) (by omega) ?_; intro a6 c6 w6 hs6 hk6 hf6; have js6 := js.out (Z := L) HLM.out.2.2.1 hs6 hk6 hf6; have hMr := hM.keep js6.k (by simp))
            | (at_builtin; refine wpList_appendN rfl (.tmp 88) (.tmp 89) 22 rfl 39 (.agg Try.zeroCells39) 65 72 Try.underlying22 info39 zero39 (by omega) (.slice a6 (nO + n0) c6) (nO + n0) (cellsOf (O ++ L)) rfl js6.so a1 n1 c1 (cellsOf M) rfl HLM.out.2.1 hMr.hnil hMr.rd (cellsOf_all M) (by simp only [maxLen]; omega) (by omega) ?_; intro a7 c7 w7 hs7 hk7 hf7; have js7 := js6.out (Z := M) HLM.out.2.2.2 hs7 hk7 hf7)
            | fail)
          go_returns
          rw [HG.out.1, HG.out.2.1, HG.out.2.2]
          exact GiveJ.give rfl HE.out.2.2.2 (Sl.nil _ _ _) (by rw [← HE.out.2.1]; exact js7.sk) (by intro b hb; simp [blks, Value.ownBlock] at hb) js7.fk js7.k
        · have HN3 := Lib.hid hk0
          have hq : (how == 3) = false ∨ ((how == 3) = true ∧ ¬ (0 : Int) < nK) := by
            by_cases h3 : how = 3
            · right; refine ⟨by simp [h3], ?_⟩; have h4 : joinK l m = [] := Classical.byContradiction fun h => hk0 ⟨h3, h⟩; have := HE.out.2.2.2; rw [h4] at this; simp at this; omega
            · left; simp [h3]
          clear hk0
          by_cases h32 : 32 < nO + n0 + n1
          · have HG := Lib.hid (join_long HK.out HVV.out HN3.out (by rw [HE.out.2.2.1]; exact h32))
            have qt : (32 : Int) < (nO : Int) + n0 + n1 := by omega
            clear h32
            rcases hq with q3 | ⟨q3, qk⟩
            · go_wp2_with (first
                | (at_builtin; refine wpList_appendN rfl (.tmp 86) (.tmp 87) 22 rfl 39 (.agg Try.zeroCells39) 65 72 Try.underlying22 info39 zero39 (by omega) (.slice ao nO co) nO (cellsOf O) rfl js.so a0 n0 c0 (cellsOf L) rfl HLM.out.1 hLr.hnil hLr.rd (cellsOf_all L) (by simp only [maxLen]; omega) (by omega) ?_; intro a6 c6 w6 hs6 hk6 hf6; have js6 := js.out (Z := L) HLM.out.2.2.1 hs6 hk6 hf6; have hMr := hM.keep js6.k (by simp))
                | (at_builtin; refine wpList_appendN rfl (.tmp 88) (.tmp 89) 22 rfl 39 (.agg Try.zeroCells39) 65 72 Try.underlying22 info39 zero39 (by omega) (.slice a6 (nO + n0) c6) (nO + n0) (cellsOf (O ++ L)) rfl js6.so a1 n1 c1 (cellsOf M) rfl HLM.out.2.1 hMr.hnil hMr.rd (cellsOf_all M) (by simp only [maxLen]; omega) (by omega) ?_; intro a7 c7 w7 hs7 hk7 hf7; have js7 := js6.out (Z := M) HLM.out.2.2.2 hs7 hk7 hf7)
                | fail)
              go_returns
              rw [HG.out.1, HG.out.2.1, HG.out.2.2]
              exact GiveJ.none js7.k
            · go_wp2_with (first
                | (at_builtin; refine wpList_appendN rfl (.tmp 86) (.tmp 87) 22 rfl 39 (.agg Try.zeroCells39) 65 72 Try.underlying22 info39 zero39 (by omega) (.slice ao nO co) nO (cellsOf O) rfl js.so a0 n0 c0 (cellsOf L) rfl HLM.out.1 hLr.hnil hLr.rd (cellsOf_all L) (by simp only [maxLen]; omega) (by omega) ?_; intro a6 c6 w6 hs6 hk6 hf6; have js6 := js.out (Z := L) HLM.out.2.2.1 hs6 hk6 hf6; have hMr := hM.keep js6.k (by simp))
                | (at_builtin; refine wpList_appendN rfl (.tmp 88) (.tmp 89) 22 rfl 39 (.agg Try.zeroCells39) 65 72 Try.underlying22 info39 zero39 (by omega) (.slice a6 (nO + n0) c6) (nO + n0) (cellsOf (O ++ L)) rfl js6.so a1 n1 c1 (cellsOf M) rfl HLM.out.2.1 hMr.hnil hMr.rd (cellsOf_all M) (by simp only [maxLen]; omega) (by omega) ?_; intro a7 c7 w7 hs7 hk7 hf7; have js7 := js6.out (Z := M) HLM.out.2.2.2 hs7 hk7 hf7)
                | fail)
              go_returns
              rw [HG.out.1, HG.out.2.1, HG.out.2.2]
              exact GiveJ.none js7.k
          · have HG := Lib.hid (join_yes HK.out HVV.out HN3.out (by rw [HE.out.2.2.1]; exact h32))
            have qt : ¬ (32 : Int) < (nO : Int) + n0 + n1 := by omega
            clear h32
            rcases hq with q3 | ⟨q3, qk⟩
            · go_wp2_with (first
                | (at_builtin; refine wpList_appendN rfl (.tmp 86) (.tmp 87) 22 rfl 39 (.agg Try.zeroCells39) 65 72 Try.underlying22 info39 zero39 (by omega) (.slice ao nO co) nO (cellsOf O) rfl js.so a0 n0 c0 (cellsOf L) rfl HLM.out.1 hLr.hnil hLr.rd (cellsOf_all L) (by simp only [maxLen]; omega) (by omega) ?_; intro a6 c6 w6 hs6 hk6 hf6; have js6 := js.out (Z := L) HLM.out.2.2.1 hs6 hk6 hf6; have hMr := hM.keep js6.k (by simp))
                | (at_builtin; refine wpList_appendN rfl (.tmp 88) (.tmp 89) 22 rfl 39 (.agg Try.zeroCells39) 65 72 Try.underlying22 info39 zero39 (by omega) (.slice a6 (nO + n0) c6) (nO + n0) (cellsOf (O ++ L)) rfl js6.so a1 n1 c1 (cellsOf M) rfl HLM.out.2.1 hMr.hnil hMr.rd (cellsOf_all M) (by simp only [maxLen]; omega) (by omega) ?_; intro a7 c7 w7 hs7 hk7 hf7; have js7 := js6.out (Z := M) HLM.out.2.2.2 hs7 hk7 hf7)
                | fail)
              go_returns
              rw [HG.out.1, HG.out.2.1, HG.out.2.2]
              exact GiveJ.give HE.out.2.2.1 HE.out.2.2.2 (by rw [← HE.out.1]; exact js7.so) (by rw [← HE.out.2.1]; exact js7.sk) js7.fo js7.fk js7.k
            · go_wp2_with (first
                | (at_builtin; refine wpList_appendN rfl (.tmp 86) (.tmp 87) 22 rfl 39 (.agg Try.zeroCells39) 65 72 Try.underlying22 info39 zero39 (by omega) (.slice ao nO co) nO (cellsOf O) rfl js.so a0 n0 c0 (cellsOf L) rfl HLM.out.1 hLr.hnil hLr.rd (cellsOf_all L) (by simp only [maxLen]; omega) (by omega) ?_; intro a6 c6 w6 hs6 hk6 hf6; have js6 := js.out (Z := L) HLM.out.2.2.1 hs6 hk6 hf6; have hMr := hM.keep js6.k (by simp))
                | (at_builtin; refine wpList_appendN rfl (.tmp 88) (.tmp 89) 22 rfl 39 (.agg Try.zeroCells39) 65 72 Try.underlying22 info39 zero39 (by omega) (.slice a6 (nO + n0) c6) (nO + n0) (cellsOf (O ++ L)) rfl js6.so a1 n1 c1 (cellsOf M) rfl HLM.out.2.1 hMr.hnil hMr.rd (cellsOf_all M) (by simp only [maxLen]; omega) (by omega) ?_; intro a7 c7 w7 hs7 hk7 hf7; have js7 := js6.out (Z := M) HLM.out.2.2.2 hs7 hk7 hf7)
                | fail)
              go_returns
              rw [HG.out.1, HG.out.2.1, HG.out.2.2]
              exact GiveJ.give HE.out.2.2.1 HE.out.2.2.2 (by rw [← HE.out.1]; exact js7.so) (by rw [← HE.out.2.1]; exact js7.sk) js7.fo js7.fk js7.k
      · have i1 : ¬ (0 : Int) < n1 := by omega
        have i0 : (0 : Int) < n0 := by omega
        clear hz0 hz
        by_cases hk0 : how = 3 ∧ joinK l m ≠ []
        · have HG := Lib.hid (join_clash HK.out HVV.out hk0)
          have q3 : (how == 3) = true := by simp [hk0.1]
          have qk : (0 : Int) < nK := by have := List.length_pos_iff.2 hk0.2; have := HE.out.2.2.2; omega
          clear hk0
          go_wp2_with (first
            | (at_builtin; refine wpList_appendN rfl (.tmp 86) (.tmp 87) 22 rfl 39 (.agg Try.zeroCells39) 65 72 Try.underlying22 info39 zero39 (by omega) (.slice ao nO co) nO (cellsOf O) rfl js.so a0 n0 c0 (cellsOf L) rfl HLM.out.1 hLr.hnil hLr.rd (cellsOf_all L) (by simp only [maxLen]; omega) (by omega) ?_; intro a6 c6 w6 hs6 hk6 hf6; have js6 := js.out (Z := L) HLM.out.2.2.1 hs6 hk6 hf6; have hMr := hM.keep js6.k (by simp))
            | (at_builtin; refine wpList_appendN rfl (.tmp 88) (.tmp 89) 22 rfl 39 (.agg Try.zeroCells39) 65 72 Try.underlying22 info39 zero39 (by omega) (.slice a6 (nO + n0) c6) (nO + n0) (cellsOf (O ++ L)) rfl js6.so a1 n1 c1 (cellsOf M) rfl HLM.out.2.1 hMr.hnil hMr.rd (cellsOf_all M) (by simp only [maxLen]; omega) (by omega) ?_; intro a7 c7 w7 hs7 hk7 hf7; have js7 := js6.out (Z := M) HLM.out.2.2.2 hs7 hk7 hf7)
            | fail)
          go_returns
          rw [HG.out.1, HG.out.2.1, HG.out.2.2]
          exact GiveJ.give rfl HE.out.2.2.2 (Sl.nil _ _ _) (by rw [← HE.out.2.1]; exact js7.sk) (by intro b hb; simp [blks, Value.ownBlock] at hb) js7.fk js7.k
        · have HN3 := Lib.hid hk0
          have hq : (how == 3) = false ∨ ((how == 3) = true ∧ ¬ (0 : Int) < nK) := by
            by_cases h3 : how = 3
            · right; refine ⟨by simp [h3], ?_⟩; have h4 : joinK l m = [] := Classical.byContradiction fun h => hk0 ⟨h3, h⟩; have := HE.out.2.2.2; rw [h4] at this; simp at this; omega
            · left; simp [h3]
          clear hk0
          by_cases h32 : 32 < nO + n0 + n1
          · have HG := Lib.hid (join_long HK.out HVV.out HN3.out (by rw [HE.out.2.2.1]; exact h32))
            have qt : (32 : Int) < (nO : Int) + n0 + n1 := by omega
            clear h32
            rcases hq with q3 | ⟨q3, qk⟩
            · go_wp2_with (first
                | (at_builtin; refine wpList_appendN rfl (.tmp 86) (.tmp 87) 22 rfl 39 (.agg Try.zeroCells39) 65 72 Try.underlying22 info39 zero39 (by omega) (.slice ao nO co) nO (cellsOf O) rfl js.so a0 n0 c0 (cellsOf L) rfl HLM.out.1 hLr.hnil hLr.rd (cellsOf_all L) (by simp only [maxLen]; omega) (by omega) ?_; intro a6 c6 w6 hs6 hk6 hf6; have js6 := js.out (Z := L) HLM.out.2.2.1 hs6 hk6 hf6; have hMr := hM.keep js6.k (by simp))
                | (at_builtin; refine wpList_appendN rfl (.tmp 88) (.tmp 89) 22 rfl 39 (.agg Try.zeroCells39) 65 72 Try.underlying22 info39 zero39 (by omega) (.slice a6 (nO + n0) c6) (nO + n0) (cellsOf (O ++ L)) rfl js6.so a1 n1 c1 (cellsOf M) rfl HLM.out.2.1 hMr.hnil hMr.rd (cellsOf_all M) (by simp only [maxLen]; omega) (by omega) ?_; intro a7 c7 w7 hs7 hk7 hf7; have js7 := js6.out (Z := M) HLM.out.2.2.2 hs7 hk7 hf7)
                | fail)
              go_returns
              rw [HG.out.1, HG.out.2.1, HG.out.2.2]
              exact GiveJ.none js7.k
            · go_wp2_with (first
                | (at_builtin; refine wpList_appendN rfl (.tmp 86) (.tmp 87) 22 rfl 39 (.agg Try.zeroCells39) 65 72 Try.underlying22 info39 zero39 (by omega) (.slice ao nO co) nO (cellsOf O) rfl js.so a0 n0 c0 (cellsOf L) rfl HLM.out.1 hLr.hnil hLr.rd (cellsOf_all L) (by simp only [maxLen]; omega) (by omega) ?_; intro a6 c6 w6 hs6 hk6 hf6; have js6 := js.out (Z := L) HLM.out.2.2.1 hs6 hk6 hf6; have hMr := hM.keep js6.k (by simp))
                | (at_builtin; refine wpList_appendN rfl (.tmp 88) (.tmp 89) 22 rfl 39 (.agg Try.zeroCells39) 65 72 Try.underlying22 info39 zero39 (by omega) (.slice a6 (nO + n0) c6) (nO + n0) (cellsOf (O ++ L)) rfl js6.so a1 n1 c1 (cellsOf M) rfl HLM.out.2.1 hMr.hnil hMr.rd (cellsOf_all M) (by simp only [maxLen]; omega) (by omega) ?_; intro a7 c7 w7 hs7 hk7 hf7; have js7 := js6.out (Z := M) HLM.out.2.2.2 hs7 hk7 hf7)
                | fail)
              go_returns
              rw [HG.out.1, HG.out.2.1, HG.out.2.2]
              exact GiveJ.none js7.k
          · have HG := Lib.hid (join_yes HK.out HVV.out HN3.out (by rw [HE.out.2.2.1]; exact h32))
            have qt : ¬ (32 : Int) < (nO : Int) + n0 + n1 := by omega
            clear h32
            rcases hq with q3 | ⟨q3, qk⟩
            · go_wp2_with (first
                | (at_builtin; refine wpList_appendN rfl (.tmp 86) (.tmp 87) 22 rfl 39 (.agg Try.zeroCells39) 65 72 Try.underlying22 info39 zero39 (by omega) (.slice ao nO co) nO (cellsOf O) rfl js.so a0 n0 c0 (cellsOf L) rfl HLM.out.1 hLr.hnil hLr.rd (cellsOf_all L) (by simp only [maxLen]; omega) (by omega) ?_; intro a6 c6 w6 hs6 hk6 hf6; have js6 := js.out (Z := L) HLM.out.2.2.1 hs6 hk6 hf6; have hMr := hM.keep js6.k (by simp))
                | (at_builtin; refine wpList_appendN rfl (.tmp 88) (.tmp 89) 22 rfl 39 (.agg Try.zeroCells39) 65 72 Try.underlying22 info39 zero39 (by omega) (.slice a6 (nO + n0) c6) (nO + n0) (cellsOf (O ++ L)) rfl js6.so a1 n1 c1 (cellsOf M) rfl HLM.out.2.1 hMr.hnil hMr.rd (cellsOf_all M) (by simp only [maxLen]; omega) (by omega) ?_; intro a7 c7 w7 hs7 hk7 hf7; have js7 := js6.out (Z := M) HLM.out.2.2.2 hs7 hk7 hf7)
                | fail)
              go_returns
              rw [HG.out.1, HG.out.2.1, HG.out.2.2]
              exact GiveJ.give HE.out.2.2.1 HE.out.2.2.2 (by rw [← HE.out.1]; exact js7.so) (by rw [← HE.out.2.1]; exact js7.sk) js7.fo js7.fk js7.k
            · go_wp2_with (first
                | (at_builtin; refine wpList_appendN rfl (.tmp 86) (.tmp 87) 22 rfl 39 (.agg Try.zeroCells39) 65 72 Try.underlying22 info39 zero39 (by omega) (.slice ao nO co) nO (cellsOf O) rfl js.so a0 n0 c0 (cellsOf L) rfl HLM.out.1 hLr.hnil hLr.rd (cellsOf_all L) (by simp only [maxLen]; omega) (by omega) ?_; intro a6 c6 w6 hs6 hk6 hf6; have js6 := js.out (Z := L) HLM.out.2.2.1 hs6 hk6 hf6; have hMr := hM.keep js6.k (by simp))
                | (at_builtin; refine wpList_appendN rfl (.tmp 88) (.tmp 89) 22 rfl 39 (.agg Try.zeroCells39) 65 72 Try.underlying22 info39 zero39 (by omega) (.slice a6 (nO + n0) c6) (nO + n0) (cellsOf (O ++ L)) rfl js6.so a1 n1 c1 (cellsOf M) rfl HLM.out.2.1 hMr.hnil hMr.rd (cellsOf_all M) (by simp only [maxLen]; omega) (by omega) ?_; intro a7 c7 w7 hs7 hk7 hf7; have js7 := js6.out (Z := M) HLM.out.2.2.2 hs7 hk7 hf7)
                | fail)
              go_returns
              rw [HG.out.1, HG.out.2.1, HG.out.2.2]
              exact GiveJ.give HE.out.2.2.1 HE.out.2.2.2 (by rw [← HE.out.1]; exact js7.so) (by rw [← HE.out.2.1]; exact js7.sk) js7.fo js7.fk js7.k
    · obtain ⟨x, L, rfl⟩ : ∃ x L', L = x :: L' := by cases L with | nil => simp at hend | cons x L => exact ⟨x, L, rfl⟩
      obtain ⟨y, M, rfl⟩ : ∃ y M', M = y :: M' := by cases M with | nil => simp at hend | cons y M => exact ⟨y, M, rfl⟩
      clear hend
      obtain ⟨b0, o0, rfl, rx0⟩ := hL.head
      obtain ⟨b1, o1, rfl, ry0⟩ := hM.head
      obtain ⟨N, hN, hso⟩ := size39
      have hLt := hL.tail1
      have hMt := hM.tail1
      rw [hN] at hLt hMt
      obtain ⟨la, hla⟩ : ∃ la, (if c0 = 1 then some (⟨b0, o0, none⟩ : Addr) else some ⟨b0, o0 + N, none⟩) = la := ⟨_, rfl⟩
      obtain ⟨ma, hma⟩ : ∃ ma, (if c1 = 1 then some (⟨b1, o1, none⟩ : Addr) else some ⟨b1, o1 + N, none⟩) = ma := ⟨_, rfl⟩
      rw [hla] at hLt
      rw [hma] at hMt
      have rx := rangeAt_keep rx0 js.k (by simp)
      have ry := rangeAt_keep ry0 js.k (by simp)
      have HRS := Lib.hid (And.intro hL (And.intro hM (And.intro hLt hMt)))
      have g0 : 1 ≤ n0 := by simp at hlL; omega
      have g1 : 1 ≤ n1 := by simp at hlM; omega
      have i0 : (0 : Int) < n0 := by omega
      have i1 : (0 : Int) < n1 := by omega
      have i2 : (1 : Int) ≤ n0 := by omega
      have i3 : (1 : Int) ≤ n1 := by omega
      have hvo := js.so.lt
      have hvk := js.sk.lt
      clear hL hM hLt hMt rx0 ry0 hN hlL hlM
      by_cases h1 : Lib.compareBytes x.act y.act < 0
      · have D1 := Lib.hid (decide_eq_true h1)
        have HD := Lib.hid h1
        clear h1
        go_upto_region 9 with fail
        refine wp_region_noPanic ?_
        refine wp_region_held_drew (S := fun W => Keep [] wr W) (by kernel_rfl) ?_ (fun hHeld0 => ?_)
        · (try dsimp only); first | exact (Keep.refl [] _).drew | exact Keep.alloc (by assumption) _ | exact Keep.trans (by assumption) k9 (fun b hb => Or.inr (by simp at hb; subst hb; simp)) | exact Keep.trans (by assumption) k8 (fun b hb => Or.inr (by simp at hb; subst hb; simp))
        refine wpAnyH_take (i := 0) (oi := ({ dst := some 35, op := Go.Op.move (Go.Operand.tmp 0), type := 22, pos := "table.go:125", after := #[], guard := none } : Oper)) (v := ?_) rfl (by kernel_rfl) (by kernel_rfl) (by kernel_rfl) (fun _ _ _ h => h) (Or.inl ⟨by rfl, ?_⟩) (by assumption) ?_
        rotate_left
        · (intro w hSw; (try dsimp only at hSw); go_simp; try with_reducible rfl)
        try simp only [Act.put, List.setIfInBounds_toArray, List.set_cons_zero, List.set_cons_succ]
        refine wpAnyH_take (i := 1) (oi := ({ dst := some 36, op := Go.Op.indexAddr 22 (Go.Operand.tmp 35) (Go.Operand.const (Go.Value.int Go.IntKind.i64 0)), type := 0, pos := "table.go:125", after := #[{ on := 0, ground := Go.Ground.data }], guard := none } : Oper)) (v := ?_) rfl (by kernel_rfl) (by kernel_rfl) (by kernel_rfl) (fun _ _ _ h => h) (Or.inl ⟨by rfl, ?_⟩) (by assumption) ?_
        rotate_left
        · (intro w hSw; (try dsimp only at hSw); go_simp; try with_reducible rfl)
        try simp only [Act.put, List.setIfInBounds_toArray, List.set_cons_zero, List.set_cons_succ]
        refine wpAnyH_take (i := 2) (oi := ({ dst := some 37, op := Go.Op.load 39 (Go.Operand.tmp 36), type := 39, pos := "table.go:125", after := #[{ on := 1, ground := Go.Ground.data }], guard := none } : Oper)) (v := .agg (List.toArray x.cells)) rfl (by kernel_rfl) (by kernel_rfl) (by kernel_rfl) (fun _ _ _ h => h) (yieldsIf_load_mid (by rfl) _ _ rfl _ _ rfl x.cells _ (fun w hSw => (rangeAt_keep rx hSw (by simp))) Try.underlying39 rfl (hi39 x)) (by assumption) ?_
        try simp only [Act.put, List.setIfInBounds_toArray, List.set_cons_zero, List.set_cons_succ]
        refine wpAnyH_take (i := 3) (oi := ({ dst := some 38, op := Go.Op.move (Go.Operand.tmp 1), type := 22, pos := "table.go:125", after := #[{ on := 8, ground := Go.Ground.gcOnly Go.Departure.lateStores }], guard := none } : Oper)) (v := ?_) rfl (by kernel_rfl) (by kernel_rfl) (by kernel_rfl) (fun _ _ _ h => h) (Or.inl ⟨by rfl, ?_⟩) (by assumption) ?_
        rotate_left
        · (intro w hSw; (try dsimp only at hSw); go_simp; try with_reducible rfl)
        try simp only [Act.put, List.setIfInBounds_toArray, List.set_cons_zero, List.set_cons_succ]
        refine wpAnyH_take (i := 4) (oi := ({ dst := some 39, op := Go.Op.indexAddr 22 (Go.Operand.tmp 38) (Go.Operand.const (Go.Value.int Go.IntKind.i64 0)), type := 0, pos := "table.go:125", after := #[{ on := 3, ground := Go.Ground.data }, { on := 8, ground := Go.Ground.gcOnly Go.Departure.lateStores }], guard := none } : Oper)) (v := ?_) rfl (by kernel_rfl) (by kernel_rfl) (by kernel_rfl) (fun _ _ _ h => h) (Or.inl ⟨by rfl, ?_⟩) (by assumption) ?_
        rotate_left
        · (intro w hSw; (try dsimp only at hSw); go_simp; try with_reducible rfl)
        try simp only [Act.put, List.setIfInBounds_toArray, List.set_cons_zero, List.set_cons_succ]
        refine wpAnyH_take (i := 5) (oi := ({ dst := some 40, op := Go.Op.load 39 (Go.Operand.tmp 39), type := 39, pos := "table.go:125", after := #[{ on := 4, ground := Go.Ground.data }, { on := 8, ground := Go.Ground.gcOnly Go.Departure.lateStores }], guard := none } : Oper)) (v := .agg (List.toArray y.cells)) rfl (by kernel_rfl) (by kernel_rfl) (by kernel_rfl) (fun _ _ _ h => h) (yieldsIf_load_mid (by rfl) _ _ rfl _ _ rfl y.cells _ (fun w hSw => (rangeAt_keep ry hSw (by simp))) Try.underlying39 rfl (hi39 y)) (by assumption) ?_
        try simp only [Act.put, List.setIfInBounds_toArray, List.set_cons_zero, List.set_cons_succ]
        refine wpAnyH_ready (rs := [6, 7]) (by kernel_rfl) (by simp) ?_
        refine (AllReadyH.cons (o := ({ dst := some 12, op := Go.Op.alloc 39, type := 0, pos := "table.go:125", after := #[], guard := none } : Oper)) rfl (fun K hK => ?_) (AllReadyH.cons (o := ({ dst := some 13, op := Go.Op.alloc 39, type := 0, pos := "table.go:125", after := #[], guard := none } : Oper)) rfl (fun K hK => ?_) AllReadyH.nil))
        · go_simp
          refine hK.out _ _ ?_ (fun hHeld1 => ?_)
          · (try dsimp only); first | exact (Keep.refl [] _).drew | exact Keep.alloc (by assumption) _ | exact Keep.trans (by assumption) k9 (fun b hb => Or.inr (by simp at hb; subst hb; simp)) | exact Keep.trans (by assumption) k8 (fun b hb => Or.inr (by simp at hb; subst hb; simp))
          clear hK K
          try simp only [Act.put, List.setIfInBounds_toArray, List.set_cons_zero, List.set_cons_succ]
          refine wpAnyH_ready (rs := [7]) (by kernel_rfl) (by simp) ?_
          refine (AllReadyH.cons (o := ({ dst := some 13, op := Go.Op.alloc 39, type := 0, pos := "table.go:125", after := #[], guard := none } : Oper)) rfl (fun K hK => ?_) AllReadyH.nil)
          go_simp
          refine hK.out _ _ ?_ (fun hHeld2 => ?_)
          · (try dsimp only); first | exact (Keep.refl [] _).drew | exact Keep.alloc (by assumption) _ | exact Keep.trans (by assumption) k9 (fun b hb => Or.inr (by simp at hb; subst hb; simp)) | exact Keep.trans (by assumption) k8 (fun b hb => Or.inr (by simp at hb; subst hb; simp))
          clear hK K
          try simp only [Act.put, List.setIfInBounds_toArray, List.set_cons_zero, List.set_cons_succ]
          refine wpAnyH_ready (rs := [8]) (by kernel_rfl) (by simp) ?_
          refine (AllReadyH.cons (o := ({ dst := none, op := Go.Op.store 39 (Go.Operand.tmp 12) (Go.Operand.tmp 37), type := 0, pos := "table.go:125", after := #[{ on := 6, ground := Go.Ground.data }, { on := 2, ground := Go.Ground.data }, { on := 0, ground := Go.Ground.phase }, { on := 1, ground := Go.Ground.phase }, { on := 2, ground := Go.Ground.phase }, { on := 3, ground := Go.Ground.textOnly Go.Departure.lateStores }, { on := 4, ground := Go.Ground.textOnly Go.Departure.lateStores }, { on := 5, ground := Go.Ground.textOnly Go.Departure.lateStores }, { on := 6, ground := Go.Ground.phase }, { on := 7, ground := Go.Ground.phase }], guard := none } : Oper)) rfl (fun K hK => ?_) AllReadyH.nil)
          (refine step_storeB rfl (.tmp 12) (.tmp 37) rfl _ x Try.zeroCells39 rfl rfl (by first | exact (Blk.new _ _ 39).alloc _ | exact Blk.new' _ _ 39 (by simp)) rfl ?_; intro w8 hB8 k8)
          refine hK.out _ _ ?_ (fun hHeld3 => ?_)
          · (try dsimp only); first | exact (Keep.refl [] _).drew | exact Keep.alloc (by assumption) _ | exact Keep.trans (by assumption) k9 (fun b hb => Or.inr (by simp at hb; subst hb; simp)) | exact Keep.trans (by assumption) k8 (fun b hb => Or.inr (by simp at hb; subst hb; simp))
          clear hK K
          try simp only [Act.put, List.setIfInBounds_toArray, List.set_cons_zero, List.set_cons_succ]
          refine wpAnyH_ready (rs := [9]) (by kernel_rfl) (by simp) ?_
          refine (AllReadyH.cons (o := ({ dst := none, op := Go.Op.store 39 (Go.Operand.tmp 13) (Go.Operand.tmp 40), type := 0, pos := "table.go:125", after := #[{ on := 7, ground := Go.Ground.data }, { on := 5, ground := Go.Ground.data }, { on := 8, ground := Go.Ground.chain }, { on := 0, ground := Go.Ground.phase }, { on := 1, ground := Go.Ground.phase }, { on := 2, ground := Go.Ground.phase }, { on := 3, ground := Go.Ground.phase }, { on := 4, ground := Go.Ground.phase }, { on := 5, ground := Go.Ground.phase }, { on := 6, ground := Go.Ground.phase }, { on := 7, ground := Go.Ground.phase }, { on := 8, ground := Go.Ground.phase }], guard := none } : Oper)) rfl (fun K hK => ?_) AllReadyH.nil)
          (refine step_storeB rfl (.tmp 13) (.tmp 40) rfl _ y Try.zeroCells39 rfl rfl (by refine Blk.keep ?_ k8 (by simp); first | exact (Blk.new _ _ 39).alloc _ | exact Blk.new' _ _ 39 (by simp)) rfl ?_; intro w9 hB9 k9; have hB12 := hB8.keep k9 (by simp))
          refine hK.out _ _ ?_ (fun hHeld4 => ?_)
          · (try dsimp only); first | exact (Keep.refl [] _).drew | exact Keep.alloc (by assumption) _ | exact Keep.trans (by assumption) k9 (fun b hb => Or.inr (by simp at hb; subst hb; simp)) | exact Keep.trans (by assumption) k8 (fun b hb => Or.inr (by simp at hb; subst hb; simp))
          clear hK K
          try simp only [Act.put, List.setIfInBounds_toArray, List.set_cons_zero, List.set_cons_succ]
          refine wpAnyH_done (by kernel_rfl) ?_ _
          refine NoPanic.normal ?_
          go_upto_region 11 with (first
            | (refine wpList_load_mid rfl 37 (.tmp 42) rfl _ 0 rfl (bs x.act) _ (rangeAt_act (rangeAt_of_blk hB12)) Try.underlying37 rfl (hi37 x.la) ?_)
            | (refine wpList_load_mid rfl 37 (.tmp 44) rfl _ 0 rfl (bs y.act) _ (rangeAt_act (rangeAt_of_blk hB9)) Try.underlying37 rfl (hi37 y.la) ?_)
            | (go_at_call 43; refine (below_any x.act y.act _ x.la y.la).mono ?_; rintro e w10 ⟨rfl, k10⟩; rw [D1.out])
            | fail)
          have hB12a := hB12.keep k10 (by simp)
          have hB9a := hB9.keep k10 (by simp)
          have js10 := (js.keep0 (by assumption : Keep [] wr w9)).keep0 k10
          have jsD := js10.keep0 ((Keep.refl [] _).drew)
          have hne : ∀ P, wr.heap.size ≤ P → P ∉ blks (.slice ao nO co) := fun P hP hb => by have := hvo P hb; omega
          refine wp_region_noPanic ?_
          refine wp_region_held_drew (S := fun W => Keep (blks (.slice ao nO co)) w10 W) (by kernel_rfl) ?_ (fun hHeld0 => ?_)
          · (try dsimp only); first | exact (Keep.refl _ _).drew | exact ((Keep.refl _ _).drew).alloc _ | exact (((Keep.refl _ _).drew).alloc _).trans hk6 (fun b hb => Or.inl hb)
          refine wpAnyH_take (i := 0) (oi := ({ dst := some 47, op := Go.Op.move (Go.Operand.tmp 10), type := 22, pos := "table.go:128", after := #[], guard := none } : Oper)) (v := ?_) rfl (by kernel_rfl) (by kernel_rfl) (by kernel_rfl) (fun _ _ _ h => h) (Or.inl ⟨by rfl, ?_⟩) (by assumption) ?_
          rotate_left
          · (intro w hSw; (try dsimp only at hSw); go_simp; try with_reducible rfl)
          try simp only [Act.put, List.setIfInBounds_toArray, List.set_cons_zero, List.set_cons_succ]
          refine wpAnyH_take (i := 1) (oi := ({ dst := some 48, op := Go.Op.load 39 (Go.Operand.tmp 12), type := 39, pos := "table.go:128", after := #[], guard := none } : Oper)) (v := .agg (List.toArray x.cells)) rfl (by kernel_rfl) (by kernel_rfl) (by kernel_rfl) (fun _ _ _ h => h) (yieldsIf_load_mid (by rfl) _ _ rfl _ _ rfl x.cells _ (fun w hSw => (rangeAt_of_blk (hB12a.keep hSw (hne _ (by omega))))) Try.underlying39 rfl (hi39 x)) (by assumption) ?_
          try simp only [Act.put, List.setIfInBounds_toArray, List.set_cons_zero, List.set_cons_succ]
          refine wpAnyH_take (i := 4) (oi := ({ dst := some 51, op := Go.Op.move (Go.Operand.tmp 0), type := 22, pos := "table.go:128", after := #[], guard := none } : Oper)) (v := ?_) rfl (by kernel_rfl) (by kernel_rfl) (by kernel_rfl) (fun _ _ _ h => h) (Or.inl ⟨by rfl, ?_⟩) (by assumption) ?_
          rotate_left
          · (intro w hSw; (try dsimp only at hSw); go_simp; try with_reducible rfl)
          try simp only [Act.put, List.setIfInBounds_toArray, List.set_cons_zero, List.set_cons_succ]
          refine wpAnyH_take (i := 5) (oi := ({ dst := some 52, op := Go.Op.slice 22 (Go.Operand.tmp 51) (some (Go.Operand.const (Go.Value.int Go.IntKind.i64 1))) none none, type := 22, pos := "table.go:128", after := #[{ on := 4, ground := Go.Ground.data }], guard := none } : Oper)) (v := ?_) rfl (by kernel_rfl) (by kernel_rfl) (by kernel_rfl) (fun _ _ _ h => h) (Or.inl ⟨by rfl, ?_⟩) (by assumption) ?_
          rotate_left
          · (intro w hSw; (try dsimp only at hSw); go_simp; try with_reducible rfl)
          try simp only [Act.put, List.setIfInBounds_toArray, List.set_cons_zero, List.set_cons_succ]
          refine wpAnyH_ready (rs := [2]) (by kernel_rfl) (by simp) ?_
          refine (AllReadyH.cons (o := ({ dst := some 49, op := Go.Op.buildSlice 22 1 #[(0, Go.Operand.tmp 48)], type := 22, pos := "table.go:128", after := #[{ on := 1, ground := Go.Ground.data }], guard := none } : Oper)) rfl (fun K hK => ?_) AllReadyH.nil)
          (refine step_build1 rfl 22 39 (.tmp 48) rfl x.cells.toArray rfl (.agg Try.zeroCells39) 65 72 Try.underlying22 info39 (by simp [Res.len]) (by omega) (by omega) ?_)
          refine hK.out _ _ ?_ (fun hHeld1 => ?_)
          · (try dsimp only); first | exact (Keep.refl _ _).drew | exact ((Keep.refl _ _).drew).alloc _ | exact (((Keep.refl _ _).drew).alloc _).trans hk6 (fun b hb => Or.inl hb)
          clear hK K
          try simp only [Act.put, List.setIfInBounds_toArray, List.set_cons_zero, List.set_cons_succ]
          refine wpAnyH_ready (rs := [3]) (by kernel_rfl) (by simp) ?_
          refine (AllReadyH.cons (o := ({ dst := some 50, op := Go.Op.call { callee := Go.Callee.builtin Go.Builtin.append, args := #[Go.Operand.tmp 47, Go.Operand.tmp 49], argTypes := #[22, 22] }, type := 22, pos := "table.go:128", after := #[{ on := 0, ground := Go.Ground.data }, { on := 2, ground := Go.Ground.data }], guard := none } : Oper)) rfl (fun K hK => ?_) AllReadyH.nil)
          (refine step_appendN rfl (.tmp 47) (.tmp 49) 22 rfl 39 (.agg Try.zeroCells39) 65 72 Try.underlying22 info39 zero39 (by omega) (.slice ao nO co) nO (cellsOf O) rfl (after_build jsD.so).1 (some ⟨_, 0, none⟩) 1 1 x.cells rfl (res_len1 x) (by simp) (after_build jsD.so).2.1 (Res.one x) (by simp only [maxLen]; omega) (by omega) ?_; intro a6 c6 w6 hs6 hk6 hf6)
          refine hK.out _ _ ?_ (fun hHeld2 => ?_)
          · (try dsimp only); first | exact (Keep.refl _ _).drew | exact ((Keep.refl _ _).drew).alloc _ | exact (((Keep.refl _ _).drew).alloc _).trans hk6 (fun b hb => Or.inl hb)
          clear hK K
          try simp only [Act.put, List.setIfInBounds_toArray, List.set_cons_zero, List.set_cons_succ]
          refine wpAnyH_take (i := 6) (oi := ({ dst := some 10, op := Go.Op.assign (Go.Operand.tmp 50), type := 22, pos := "table.go:128", after := #[{ on := 3, ground := Go.Ground.data }, { on := 3, ground := Go.Ground.chain }, { on := 0, ground := Go.Ground.phase }, { on := 1, ground := Go.Ground.phase }, { on := 2, ground := Go.Ground.phase }, { on := 3, ground := Go.Ground.phase }, { on := 4, ground := Go.Ground.textOnly Go.Departure.lateStores }, { on := 5, ground := Go.Ground.textOnly Go.Departure.lateStoresUnsure }], guard := none } : Oper)) (v := ?_) rfl (by kernel_rfl) (by kernel_rfl) (by kernel_rfl) (fun _ _ _ h => h) (Or.inl ⟨by rfl, ?_⟩) (by assumption) ?_
          rotate_left
          · (intro w hSw; (try dsimp only at hSw); go_simp; try with_reducible rfl)
          try simp only [Act.put, List.setIfInBounds_toArray, List.set_cons_zero, List.set_cons_succ]
          refine wpAnyH_take (i := 7) (oi := ({ dst := some 0, op := Go.Op.assign (Go.Operand.tmp 52), type := 22, pos := "table.go:128", after := #[{ on := 5, ground := Go.Ground.data }, { on := 6, ground := Go.Ground.chain }, { on := 0, ground := Go.Ground.phase }, { on := 1, ground := Go.Ground.phase }, { on := 2, ground := Go.Ground.phase }, { on := 3, ground := Go.Ground.phase }, { on := 4, ground := Go.Ground.phase }, { on := 5, ground := Go.Ground.phase }, { on := 6, ground := Go.Ground.phase }], guard := none } : Oper)) (v := ?_) rfl (by kernel_rfl) (by kernel_rfl) (by kernel_rfl) (fun _ _ _ h => h) (Or.inl ⟨by rfl, ?_⟩) (by assumption) ?_
          rotate_left
          · (intro w hSw; (try dsimp only at hSw); go_simp; try with_reducible rfl)
          try simp only [Act.put, List.setIfInBounds_toArray, List.set_cons_zero, List.set_cons_succ]
          refine wpAnyH_done (by kernel_rfl) ?_ _
          refine NoPanic.normal ?_
          have jsF := (jsD.keep0 (after_build jsD.so (x := x)).2.2).out (Z := [x]) rfl (by rw [cellsOf_one]; exact hs6) hk6 hf6; go_wp2_with fail; exact ⟨⟨_, _, _, _, _, _, _, _, _, _, _, _, _, _, _, _, rfl, rfl, rfl, rfl, HRS.out.2.2.1, HRS.out.2.1, jsF, by rw [← HJ.out.1, joinO_lt HD.out, List.append_assoc]; rfl, by rw [← HJ.out.2, joinK_lt HD.out], by omega, by omega⟩, by simp [slLen]; omega⟩
        · go_simp
          refine hK.out _ _ ?_ (fun hHeld4 => ?_)
          · (try dsimp only); first | exact (Keep.refl [] _).drew | exact Keep.alloc (by assumption) _ | exact Keep.trans (by assumption) k9 (fun b hb => Or.inr (by simp at hb; subst hb; simp)) | exact Keep.trans (by assumption) k8 (fun b hb => Or.inr (by simp at hb; subst hb; simp))
          clear hK K
          try simp only [Act.put, List.setIfInBounds_toArray, List.set_cons_zero, List.set_cons_succ]
          refine wpAnyH_ready (rs := [6]) (by kernel_rfl) (by simp) ?_
          refine (AllReadyH.cons (o := ({ dst := some 12, op := Go.Op.alloc 39, type := 0, pos := "table.go:125", after := #[], guard := none } : Oper)) rfl (fun K hK => ?_) AllReadyH.nil)
          go_simp
          refine hK.out _ _ ?_ (fun hHeld5 => ?_)
          · (try dsimp only); first | exact (Keep.refl [] _).drew | exact Keep.alloc (by assumption) _ | exact Keep.trans (by assumption) k9 (fun b hb => Or.inr (by simp at hb; subst hb; simp)) | exact Keep.trans (by assumption) k8 (fun b hb => Or.inr (by simp at hb; subst hb; simp))
          clear hK K
          try simp only [Act.put, List.setIfInBounds_toArray, List.set_cons_zero, List.set_cons_succ]
          refine wpAnyH_ready (rs := [8]) (by kernel_rfl) (by simp) ?_
          refine (AllReadyH.cons (o := ({ dst := none, op := Go.Op.store 39 (Go.Operand.tmp 12) (Go.Operand.tmp 37), type := 0, pos := "table.go:125", after := #[{ on := 6, ground := Go.Ground.data }, { on := 2, ground := Go.Ground.data }, { on := 0, ground := Go.Ground.phase }, { on := 1, ground := Go.Ground.phase }, { on := 2, ground := Go.Ground.phase }, { on := 3, ground := Go.Ground.textOnly Go.Departure.lateStores }, { on := 4, ground := Go.Ground.textOnly Go.Departure.lateStores }, { on := 5, ground := Go.Ground.textOnly Go.Departure.lateStores }, { on := 6, ground := Go.Ground.phase }, { on := 7, ground := Go.Ground.phase }], guard := none } : Oper)) rfl (fun K hK => ?_) AllReadyH.nil)
          (refine step_storeB rfl (.tmp 12) (.tmp 37) rfl _ x Try.zeroCells39 rfl rfl (by first | exact (Blk.new _ _ 39).alloc _ | exact Blk.new' _ _ 39 (by simp)) rfl ?_; intro w8 hB8 k8)
          refine hK.out _ _ ?_ (fun hHeld6 => ?_)
          · (try dsimp only); first | exact (Keep.refl [] _).drew | exact Keep.alloc (by assumption) _ | exact Keep.trans (by assumption) k9 (fun b hb => Or.inr (by simp at hb; subst hb; simp)) | exact Keep.trans (by assumption) k8 (fun b hb => Or.inr (by simp at hb; subst hb; simp))
          clear hK K
          try simp only [Act.put, List.setIfInBounds_toArray, List.set_cons_zero, List.set_cons_succ]
          refine wpAnyH_ready (rs := [9]) (by kernel_rfl) (by simp) ?_
          refine (AllReadyH.cons (o := ({ dst := none, op := Go.Op.store 39 (Go.Operand.tmp 13) (Go.Operand.tmp 40), type := 0, pos := "table.go:125", after := #[{ on := 7, ground := Go.Ground.data }, { on := 5, ground := Go.Ground.data }, { on := 8, ground := Go.Ground.chain }, { on := 0, ground := Go.Ground.phase }, { on := 1, ground := Go.Ground.phase }, { on := 2, ground := Go.Ground.phase }, { on := 3, ground := Go.Ground.phase }, { on := 4, ground := Go.Ground.phase }, { on := 5, ground := Go.Ground.phase }, { on := 6, ground := Go.Ground.phase }, { on := 7, ground := Go.Ground.phase }, { on := 8, ground := Go.Ground.phase }], guard := none } : Oper)) rfl (fun K hK => ?_) AllReadyH.nil)
          (refine step_storeB rfl (.tmp 13) (.tmp 40) rfl _ y Try.zeroCells39 rfl rfl (by refine Blk.keep ?_ k8 (by simp); first | exact (Blk.new _ _ 39).alloc _ | exact Blk.new' _ _ 39 (by simp)) rfl ?_; intro w9 hB9 k9; have hB12 := hB8.keep k9 (by simp))
          refine hK.out _ _ ?_ (fun hHeld7 => ?_)
          · (try dsimp only); first | exact (Keep.refl [] _).drew | exact Keep.alloc (by assumption) _ | exact Keep.trans (by assumption) k9 (fun b hb => Or.inr (by simp at hb; subst hb; simp)) | exact Keep.trans (by assumption) k8 (fun b hb => Or.inr (by simp at hb; subst hb; simp))
          clear hK K
          try simp only [Act.put, List.setIfInBounds_toArray, List.set_cons_zero, List.set_cons_succ]
          refine wpAnyH_done (by kernel_rfl) ?_ _
          refine NoPanic.normal ?_
          go_upto_region 11 with (first
            | (refine wpList_load_mid rfl 37 (.tmp 42) rfl _ 0 rfl (bs x.act) _ (rangeAt_act (rangeAt_of_blk hB12)) Try.underlying37 rfl (hi37 x.la) ?_)
            | (refine wpList_load_mid rfl 37 (.tmp 44) rfl _ 0 rfl (bs y.act) _ (rangeAt_act (rangeAt_of_blk hB9)) Try.underlying37 rfl (hi37 y.la) ?_)
            | (go_at_call 43; refine (below_any x.act y.act _ x.la y.la).mono ?_; rintro e w10 ⟨rfl, k10⟩; rw [D1.out])
            | fail)
          have hB12a := hB12.keep k10 (by simp)
          have hB9a := hB9.keep k10 (by simp)
          have js10 := (js.keep0 (by assumption : Keep [] wr w9)).keep0 k10
          have jsD := js10.keep0 ((Keep.refl [] _).drew)
          have hne : ∀ P, wr.heap.size ≤ P → P ∉ blks (.slice ao nO co) := fun P hP hb => by have := hvo P hb; omega
          refine wp_region_noPanic ?_
          refine wp_region_held_drew (S := fun W => Keep (blks (.slice ao nO co)) w10 W) (by kernel_rfl) ?_ (fun hHeld0 => ?_)
          · (try dsimp only); first | exact (Keep.refl _ _).drew | exact ((Keep.refl _ _).drew).alloc _ | exact (((Keep.refl _ _).drew).alloc _).trans hk6 (fun b hb => Or.inl hb)
          refine wpAnyH_take (i := 0) (oi := ({ dst := some 47, op := Go.Op.move (Go.Operand.tmp 10), type := 22, pos := "table.go:128", after := #[], guard := none } : Oper)) (v := ?_) rfl (by kernel_rfl) (by kernel_rfl) (by kernel_rfl) (fun _ _ _ h => h) (Or.inl ⟨by rfl, ?_⟩) (by assumption) ?_
          rotate_left
          · (intro w hSw; (try dsimp only at hSw); go_simp; try with_reducible rfl)
          try simp only [Act.put, List.setIfInBounds_toArray, List.set_cons_zero, List.set_cons_succ]
          refine wpAnyH_take (i := 1) (oi := ({ dst := some 48, op := Go.Op.load 39 (Go.Operand.tmp 12), type := 39, pos := "table.go:128", after := #[], guard := none } : Oper)) (v := .agg (List.toArray x.cells)) rfl (by kernel_rfl) (by kernel_rfl) (by kernel_rfl) (fun _ _ _ h => h) (yieldsIf_load_mid (by rfl) _ _ rfl _ _ rfl x.cells _ (fun w hSw => (rangeAt_of_blk (hB12a.keep hSw (hne _ (by omega))))) Try.underlying39 rfl (hi39 x)) (by assumption) ?_
          try simp only [Act.put, List.setIfInBounds_toArray, List.set_cons_zero, List.set_cons_succ]
          refine wpAnyH_take (i := 4) (oi := ({ dst := some 51, op := Go.Op.move (Go.Operand.tmp 0), type := 22, pos := "table.go:128", after := #[], guard := none } : Oper)) (v := ?_) rfl (by kernel_rfl) (by kernel_rfl) (by kernel_rfl) (fun _ _ _ h => h) (Or.inl ⟨by rfl, ?_⟩) (by assumption) ?_
          rotate_left
          · (intro w hSw; (try dsimp only at hSw); go_simp; try with_reducible rfl)
          try simp only [Act.put, List.setIfInBounds_toArray, List.set_cons_zero, List.set_cons_succ]
          refine wpAnyH_take (i := 5) (oi := ({ dst := some 52, op := Go.Op.slice 22 (Go.Operand.tmp 51) (some (Go.Operand.const (Go.Value.int Go.IntKind.i64 1))) none none, type := 22, pos := "table.go:128", after := #[{ on := 4, ground := Go.Ground.data }], guard := none } : Oper)) (v := ?_) rfl (by kernel_rfl) (by kernel_rfl) (by kernel_rfl) (fun _ _ _ h => h) (Or.inl ⟨by rfl, ?_⟩) (by assumption) ?_
          rotate_left
          · (intro w hSw; (try dsimp only at hSw); go_simp; try with_reducible rfl)
          try simp only [Act.put, List.setIfInBounds_toArray, List.set_cons_zero, List.set_cons_succ]
          refine wpAnyH_ready (rs := [2]) (by kernel_rfl) (by simp) ?_
          refine (AllReadyH.cons (o := ({ dst := some 49, op := Go.Op.buildSlice 22 1 #[(0, Go.Operand.tmp 48)], type := 22, pos := "table.go:128", after := #[{ on := 1, ground := Go.Ground.data }], guard := none } : Oper)) rfl (fun K hK => ?_) AllReadyH.nil)
          (refine step_build1 rfl 22 39 (.tmp 48) rfl x.cells.toArray rfl (.agg Try.zeroCells39) 65 72 Try.underlying22 info39 (by simp [Res.len]) (by omega) (by omega) ?_)
          refine hK.out _ _ ?_ (fun hHeld1 => ?_)
          · (try dsimp only); first | exact (Keep.refl _ _).drew | exact ((Keep.refl _ _).drew).alloc _ | exact (((Keep.refl _ _).drew).alloc _).trans hk6 (fun b hb => Or.inl hb)
          clear hK K
          try simp only [Act.put, List.setIfInBounds_toArray, List.set_cons_zero, List.set_cons_succ]
          refine wpAnyH_ready (rs := [3]) (by kernel_rfl) (by simp) ?_
          refine (AllReadyH.cons (o := ({ dst := some 50, op := Go.Op.call { callee := Go.Callee.builtin Go.Builtin.append, args := #[Go.Operand.tmp 47, Go.Operand.tmp 49], argTypes := #[22, 22] }, type := 22, pos := "table.go:128", after := #[{ on := 0, ground := Go.Ground.data }, { on := 2, ground := Go.Ground.data }], guard := none } : Oper)) rfl (fun K hK => ?_) AllReadyH.nil)
          (refine step_appendN rfl (.tmp 47) (.tmp 49) 22 rfl 39 (.agg Try.zeroCells39) 65 72 Try.underlying22 info39 zero39 (by omega) (.slice ao nO co) nO (cellsOf O) rfl (after_build jsD.so).1 (some ⟨_, 0, none⟩) 1 1 x.cells rfl (res_len1 x) (by simp) (after_build jsD.so).2.1 (Res.one x) (by simp only [maxLen]; omega) (by omega) ?_; intro a6 c6 w6 hs6 hk6 hf6)
          refine hK.out _ _ ?_ (fun hHeld2 => ?_)
          · (try dsimp only); first | exact (Keep.refl _ _).drew | exact ((Keep.refl _ _).drew).alloc _ | exact (((Keep.refl _ _).drew).alloc _).trans hk6 (fun b hb => Or.inl hb)
          clear hK K
          try simp only [Act.put, List.setIfInBounds_toArray, List.set_cons_zero, List.set_cons_succ]
          refine wpAnyH_take (i := 6) (oi := ({ dst := some 10, op := Go.Op.assign (Go.Operand.tmp 50), type := 22, pos := "table.go:128", after := #[{ on := 3, ground := Go.Ground.data }, { on := 3, ground := Go.Ground.chain }, { on := 0, ground := Go.Ground.phase }, { on := 1, ground := Go.Ground.phase }, { on := 2, ground := Go.Ground.phase }, { on := 3, ground := Go.Ground.phase }, { on := 4, ground := Go.Ground.textOnly Go.Departure.lateStores }, { on := 5, ground := Go.Ground.textOnly Go.Departure.lateStoresUnsure }], guard := none } : Oper)) (v := ?_) rfl (by kernel_rfl) (by kernel_rfl) (by kernel_rfl) (fun _ _ _ h => h) (Or.inl ⟨by rfl, ?_⟩) (by assumption) ?_
          rotate_left
          · (intro w hSw; (try dsimp only at hSw); go_simp; try with_reducible rfl)
          try simp only [Act.put, List.setIfInBounds_toArray, List.set_cons_zero, List.set_cons_succ]
          refine wpAnyH_take (i := 7) (oi := ({ dst := some 0, op := Go.Op.assign (Go.Operand.tmp 52), type := 22, pos := "table.go:128", after := #[{ on := 5, ground := Go.Ground.data }, { on := 6, ground := Go.Ground.chain }, { on := 0, ground := Go.Ground.phase }, { on := 1, ground := Go.Ground.phase }, { on := 2, ground := Go.Ground.phase }, { on := 3, ground := Go.Ground.phase }, { on := 4, ground := Go.Ground.phase }, { on := 5, ground := Go.Ground.phase }, { on := 6, ground := Go.Ground.phase }], guard := none } : Oper)) (v := ?_) rfl (by kernel_rfl) (by kernel_rfl) (by kernel_rfl) (fun _ _ _ h => h) (Or.inl ⟨by rfl, ?_⟩) (by assumption) ?_
          rotate_left
          · (intro w hSw; (try dsimp only at hSw); go_simp; try with_reducible rfl)
          try simp only [Act.put, List.setIfInBounds_toArray, List.set_cons_zero, List.set_cons_succ]
          refine wpAnyH_done (by kernel_rfl) ?_ _
          refine NoPanic.normal ?_
          have jsF := (jsD.keep0 (after_build jsD.so (x := x)).2.2).out (Z := [x]) rfl (by rw [cellsOf_one]; exact hs6) hk6 hf6; go_wp2_with fail; exact ⟨⟨_, _, _, _, _, _, _, _, _, _, _, _, _, _, _, _, rfl, rfl, rfl, rfl, HRS.out.2.2.1, HRS.out.2.1, jsF, by rw [← HJ.out.1, joinO_lt HD.out, List.append_assoc]; rfl, by rw [← HJ.out.2, joinK_lt HD.out], by omega, by omega⟩, by simp [slLen]; omega⟩
      by_cases h2 : Lib.compareBytes y.act x.act < 0
      · have D1 := Lib.hid (decide_eq_false h1)
        have D2 := Lib.hid (decide_eq_true h2)
        have HD := Lib.hid (And.intro h1 h2)
        clear h1 h2
        go_upto_region 9 with fail
        refine wp_region_noPanic ?_
        refine wp_region_held_drew (S := fun W => Keep [] wr W) (by kernel_rfl) ?_ (fun hHeld0 => ?_)
        · (try dsimp only); first | exact (Keep.refl [] _).drew | exact Keep.alloc (by assumption) _ | exact Keep.trans (by assumption) k9 (fun b hb => Or.inr (by simp at hb; subst hb; simp)) | exact Keep.trans (by assumption) k8 (fun b hb => Or.inr (by simp at hb; subst hb; simp))
        refine wpAnyH_take (i := 0) (oi := ({ dst := some 35, op := Go.Op.move (Go.Operand.tmp 0), type := 22, pos := "table.go:125", after := #[], guard := none } : Oper)) (v := ?_) rfl (by kernel_rfl) (by kernel_rfl) (by kernel_rfl) (fun _ _ _ h => h) (Or.inl ⟨by rfl, ?_⟩) (by assumption) ?_
        rotate_left
        · (intro w hSw; (try dsimp only at hSw); go_simp; try with_reducible rfl)
        try simp only [Act.put, List.setIfInBounds_toArray, List.set_cons_zero, List.set_cons_succ]
        refine wpAnyH_take (i := 1) (oi := ({ dst := some 36, op := Go.Op.indexAddr 22 (Go.Operand.tmp 35) (Go.Operand.const (Go.Value.int Go.IntKind.i64 0)), type := 0, pos := "table.go:125", after := #[{ on := 0, ground := Go.Ground.data }], guard := none } : Oper)) (v := ?_) rfl (by kernel_rfl) (by kernel_rfl) (by kernel_rfl) (fun _ _ _ h => h) (Or.inl ⟨by rfl, ?_⟩) (by assumption) ?_
        rotate_left
        · (intro w hSw; (try dsimp only at hSw); go_simp; try with_reducible rfl)
        try simp only [Act.put, List.setIfInBounds_toArray, List.set_cons_zero, List.set_cons_succ]
        refine wpAnyH_take (i := 2) (oi := ({ dst := some 37, op := Go.Op.load 39 (Go.Operand.tmp 36), type := 39, pos := "table.go:125", after := #[{ on := 1, ground := Go.Ground.data }], guard := none } : Oper)) (v := .agg (List.toArray x.cells)) rfl (by kernel_rfl) (by kernel_rfl) (by kernel_rfl) (fun _ _ _ h => h) (yieldsIf_load_mid (by rfl) _ _ rfl _ _ rfl x.cells _ (fun w hSw => (rangeAt_keep rx hSw (by simp))) Try.underlying39 rfl (hi39 x)) (by assumption) ?_
        try simp only [Act.put, List.setIfInBounds_toArray, List.set_cons_zero, List.set_cons_succ]
        refine wpAnyH_take (i := 3) (oi := ({ dst := some 38, op := Go.Op.move (Go.Operand.tmp 1), type := 22, pos := "table.go:125", after := #[{ on := 8, ground := Go.Ground.gcOnly Go.Departure.lateStores }], guard := none } : Oper)) (v := ?_) rfl (by kernel_rfl) (by kernel_rfl) (by kernel_rfl) (fun _ _ _ h => h) (Or.inl ⟨by rfl, ?_⟩) (by assumption) ?_
        rotate_left
        · (intro w hSw; (try dsimp only at hSw); go_simp; try with_reducible rfl)
        try simp only [Act.put, List.setIfInBounds_toArray, List.set_cons_zero, List.set_cons_succ]
        refine wpAnyH_take (i := 4) (oi := ({ dst := some 39, op := Go.Op.indexAddr 22 (Go.Operand.tmp 38) (Go.Operand.const (Go.Value.int Go.IntKind.i64 0)), type := 0, pos := "table.go:125", after := #[{ on := 3, ground := Go.Ground.data }, { on := 8, ground := Go.Ground.gcOnly Go.Departure.lateStores }], guard := none } : Oper)) (v := ?_) rfl (by kernel_rfl) (by kernel_rfl) (by kernel_rfl) (fun _ _ _ h => h) (Or.inl ⟨by rfl, ?_⟩) (by assumption) ?_
        rotate_left
        · (intro w hSw; (try dsimp only at hSw); go_simp; try with_reducible rfl)
        try simp only [Act.put, List.setIfInBounds_toArray, List.set_cons_zero, List.set_cons_succ]
        refine wpAnyH_take (i := 5) (oi := ({ dst := some 40, op := Go.Op.load 39 (Go.Operand.tmp 39), type := 39, pos := "table.go:125", after := #[{ on := 4, ground := Go.Ground.data }, { on := 8, ground := Go.Ground.gcOnly Go.Departure.lateStores }], guard := none } : Oper)) (v := .agg (List.toArray y.cells)) rfl (by kernel_rfl) (by kernel_rfl) (by kernel_rfl) (fun _ _ _ h => h) (yieldsIf_load_mid (by rfl) _ _ rfl _ _ rfl y.cells _ (fun w hSw => (rangeAt_keep ry hSw (by simp))) Try.underlying39 rfl (hi39 y)) (by assumption) ?_
        try simp only [Act.put, List.setIfInBounds_toArray, List.set_cons_zero, List.set_cons_succ]
        refine wpAnyH_ready (rs := [6, 7]) (by kernel_rfl) (by simp) ?_
        refine (AllReadyH.cons (o := ({ dst := some 12, op := Go.Op.alloc 39, type := 0, pos := "table.go:125", after := #[], guard := none } : Oper)) rfl (fun K hK => ?_) (AllReadyH.cons (o := ({ dst := some 13, op := Go.Op.alloc 39, type := 0, pos := "table.go:125", after := #[], guard := none } : Oper)) rfl (fun K hK => ?_) AllReadyH.nil))
        · go_simp
          refine hK.out _ _ ?_ (fun hHeld1 => ?_)
          · (try dsimp only); first | exact (Keep.refl [] _).drew | exact Keep.alloc (by assumption) _ | exact Keep.trans (by assumption) k9 (fun b hb => Or.inr (by simp at hb; subst hb; simp)) | exact Keep.trans (by assumption) k8 (fun b hb => Or.inr (by simp at hb; subst hb; simp))
          clear hK K
          try simp only [Act.put, List.setIfInBounds_toArray, List.set_cons_zero, List.set_cons_succ]
          refine wpAnyH_ready (rs := [7]) (by kernel_rfl) (by simp) ?_
          refine (AllReadyH.cons (o := ({ dst := some 13, op := Go.Op.alloc 39, type := 0, pos := "table.go:125", after := #[], guard := none } : Oper)) rfl (fun K hK => ?_) AllReadyH.nil)
          go_simp
          refine hK.out _ _ ?_ (fun hHeld2 => ?_)
          · (try dsimp only); first | exact (Keep.refl [] _).drew | exact Keep.alloc (by assumption) _ | exact Keep.trans (by assumption) k9 (fun b hb => Or.inr (by simp at hb; subst hb; simp)) | exact Keep.trans (by assumption) k8 (fun b hb => Or.inr (by simp at hb; subst hb; simp))
          clear hK K
          try simp only [Act.put, List.setIfInBounds_toArray, List.set_cons_zero, List.set_cons_succ]
          refine wpAnyH_ready (rs := [8]) (by kernel_rfl) (by simp) ?_
          refine (AllReadyH.cons (o := ({ dst := none, op := Go.Op.store 39 (Go.Operand.tmp 12) (Go.Operand.tmp 37), type := 0, pos := "table.go:125", after := #[{ on := 6, ground := Go.Ground.data }, { on := 2, ground := Go.Ground.data }, { on := 0, ground := Go.Ground.phase }, { on := 1, ground := Go.Ground.phase }, { on := 2, ground := Go.Ground.phase }, { on := 3, ground := Go.Ground.textOnly Go.Departure.lateStores }, { on := 4, ground := Go.Ground.textOnly Go.Departure.lateStores }, { on := 5, ground := Go.Ground.textOnly Go.Departure.lateStores }, { on := 6, ground := Go.Ground.phase }, { on := 7, ground := Go.Ground.phase }], guard := none } : Oper)) rfl (fun K hK => ?_) AllReadyH.nil)
          (refine step_storeB rfl (.tmp 12) (.tmp 37) rfl _ x Try.zeroCells39 rfl rfl (by first | exact (Blk.new _ _ 39).alloc _ | exact Blk.new' _ _ 39 (by simp)) rfl ?_; intro w8 hB8 k8)
          refine hK.out _ _ ?_ (fun hHeld3 => ?_)
          · (try dsimp only); first | exact (Keep.refl [] _).drew | exact Keep.alloc (by assumption) _ | exact Keep.trans (by assumption) k9 (fun b hb => Or.inr (by simp at hb; subst hb; simp)) | exact Keep.trans (by assumption) k8 (fun b hb => Or.inr (by simp at hb; subst hb; simp))
          clear hK K
          try simp only [Act.put, List.setIfInBounds_toArray, List.set_cons_zero, List.set_cons_succ]
          refine wpAnyH_ready (rs := [9]) (by kernel_rfl) (by simp) ?_
          refine (AllReadyH.cons (o := ({ dst := none, op := Go.Op.store 39 (Go.Operand.tmp 13) (Go.Operand.tmp 40), type := 0, pos := "table.go:125", after := #[{ on := 7, ground := Go.Ground.data }, { on := 5, ground := Go.Ground.data }, { on := 8, ground := Go.Ground.chain }, { on := 0, ground := Go.Ground.phase }, { on := 1, ground := Go.Ground.phase }, { on := 2, ground := Go.Ground.phase }, { on := 3, ground := Go.Ground.phase }, { on := 4, ground := Go.Ground.phase }, { on := 5, ground := Go.Ground.phase }, { on := 6, ground := Go.Ground.phase }, { on := 7, ground := Go.Ground.phase }, { on := 8, ground := Go.Ground.phase }], guard := none } : Oper)) rfl (fun K hK => ?_) AllReadyH.nil)
          (refine step_storeB rfl (.tmp 13) (.tmp 40) rfl _ y Try.zeroCells39 rfl rfl (by refine Blk.keep ?_ k8 (by simp); first | exact (Blk.new _ _ 39).alloc _ | exact Blk.new' _ _ 39 (by simp)) rfl ?_; intro w9 hB9 k9; have hB12 := hB8.keep k9 (by simp))
          refine hK.out _ _ ?_ (fun hHeld4 => ?_)
          · (try dsimp only); first | exact (Keep.refl [] _).drew | exact Keep.alloc (by assumption) _ | exact Keep.trans (by assumption) k9 (fun b hb => Or.inr (by simp at hb; subst hb; simp)) | exact Keep.trans (by assumption) k8 (fun b hb => Or.inr (by simp at hb; subst hb; simp))
          clear hK K
          try simp only [Act.put, List.setIfInBounds_toArray, List.set_cons_zero, List.set_cons_succ]
          refine wpAnyH_done (by kernel_rfl) ?_ _
          refine NoPanic.normal ?_
          go_upto_region 12 with (first
            | (refine wpList_load_mid rfl 37 (.tmp 42) rfl _ 0 rfl (bs x.act) _ (rangeAt_act (rangeAt_of_blk hB12)) Try.underlying37 rfl (hi37 x.la) ?_)
            | (refine wpList_load_mid rfl 37 (.tmp 44) rfl _ 0 rfl (bs y.act) _ (rangeAt_act (rangeAt_of_blk hB9)) Try.underlying37 rfl (hi37 y.la) ?_)
            | (go_at_call 43; refine (below_any x.act y.act _ x.la y.la).mono ?_; rintro e w10 ⟨rfl, k10⟩; rw [D1.out])
            | fail)
          have hB12a := hB12.keep k10 (by simp)
          have hB9a := hB9.keep k10 (by simp)
          have js10 := (js.keep0 (by assumption : Keep [] wr w9)).keep0 k10
          go_upto_region 13 with (first
            | (refine wpList_load_mid rfl 37 (.tmp 54) rfl _ 0 rfl (bs y.act) _ (rangeAt_act (rangeAt_of_blk hB9a)) Try.underlying37 rfl (hi37 y.la) ?_)
            | (refine wpList_load_mid rfl 37 (.tmp 56) rfl _ 0 rfl (bs x.act) _ (rangeAt_act (rangeAt_of_blk hB12a)) Try.underlying37 rfl (hi37 x.la) ?_)
            | (go_at_call 43; refine (below_any y.act x.act _ y.la x.la).mono ?_; rintro e w11 ⟨rfl, k11⟩; rw [D2.out])
            | fail)
          have hB12b := hB12a.keep k11 (by simp)
          have hB9b := hB9a.keep k11 (by simp)
          have js11 := js10.keep0 k11
          have jsD := js11.keep0 ((Keep.refl [] _).drew)
          have hne : ∀ P, wr.heap.size ≤ P → P ∉ blks (.slice ao nO co) := fun P hP hb => by have := hvo P hb; omega
          refine wp_region_noPanic ?_
          refine wp_region_held_drew (S := fun W => Keep (blks (.slice ao nO co)) w11 W) (by kernel_rfl) ?_ (fun hHeld0 => ?_)
          · (try dsimp only); first | exact (Keep.refl _ _).drew | exact ((Keep.refl _ _).drew).alloc _ | exact (((Keep.refl _ _).drew).alloc _).trans hk6 (fun b hb => Or.inl hb)
          refine wpAnyH_take (i := 0) (oi := ({ dst := some 59, op := Go.Op.move (Go.Operand.tmp 10), type := 22, pos := "table.go:131", after := #[], guard := none } : Oper)) (v := ?_) rfl (by kernel_rfl) (by kernel_rfl) (by kernel_rfl) (fun _ _ _ h => h) (Or.inl ⟨by rfl, ?_⟩) (by assumption) ?_
          rotate_left
          · (intro w hSw; (try dsimp only at hSw); go_simp; try with_reducible rfl)
          try simp only [Act.put, List.setIfInBounds_toArray, List.set_cons_zero, List.set_cons_succ]
          refine wpAnyH_take (i := 1) (oi := ({ dst := some 60, op := Go.Op.load 39 (Go.Operand.tmp 13), type := 39, pos := "table.go:131", after := #[], guard := none } : Oper)) (v := .agg (List.toArray y.cells)) rfl (by kernel_rfl) (by kernel_rfl) (by kernel_rfl) (fun _ _ _ h => h) (yieldsIf_load_mid (by rfl) _ _ rfl _ _ rfl y.cells _ (fun w hSw => (rangeAt_of_blk (hB9b.keep hSw (hne _ (by omega))))) Try.underlying39 rfl (hi39 y)) (by assumption) ?_
          try simp only [Act.put, List.setIfInBounds_toArray, List.set_cons_zero, List.set_cons_succ]
          refine wpAnyH_take (i := 4) (oi := ({ dst := some 63, op := Go.Op.move (Go.Operand.tmp 1), type := 22, pos := "table.go:131", after := #[], guard := none } : Oper)) (v := ?_) rfl (by kernel_rfl) (by kernel_rfl) (by kernel_rfl) (fun _ _ _ h => h) (Or.inl ⟨by rfl, ?_⟩) (by assumption) ?_
          rotate_left
          · (intro w hSw; (try dsimp only at hSw); go_simp; try with_reducible rfl)
          try simp only [Act.put, List.setIfInBounds_toArray, List.set_cons_zero, List.set_cons_succ]
          refine wpAnyH_take (i := 5) (oi := ({ dst := some 64, op := Go.Op.slice 22 (Go.Operand.tmp 63) (some (Go.Operand.const (Go.Value.int Go.IntKind.i64 1))) none none, type := 22, pos := "table.go:131", after := #[{ on := 4, ground := Go.Ground.data }], guard := none } : Oper)) (v := ?_) rfl (by kernel_rfl) (by kernel_rfl) (by kernel_rfl) (fun _ _ _ h => h) (Or.inl ⟨by rfl, ?_⟩) (by assumption) ?_
          rotate_left
          · (intro w hSw; (try dsimp only at hSw); go_simp; try with_reducible rfl)
          try simp only [Act.put, List.setIfInBounds_toArray, List.set_cons_zero, List.set_cons_succ]
          refine wpAnyH_ready (rs := [2]) (by kernel_rfl) (by simp) ?_
          refine (AllReadyH.cons (o := ({ dst := some 61, op := Go.Op.buildSlice 22 1 #[(0, Go.Operand.tmp 60)], type := 22, pos := "table.go:131", after := #[{ on := 1, ground := Go.Ground.data }], guard := none } : Oper)) rfl (fun K hK => ?_) AllReadyH.nil)
          (refine step_build1 rfl 22 39 (.tmp 60) rfl y.cells.toArray rfl (.agg Try.zeroCells39) 65 72 Try.underlying22 info39 (by simp [Res.len]) (by omega) (by omega) ?_)
          refine hK.out _ _ ?_ (fun hHeld1 => ?_)
          · (try dsimp only); first | exact (Keep.refl _ _).drew | exact ((Keep.refl _ _).drew).alloc _ | exact (((Keep.refl _ _).drew).alloc _).trans hk6 (fun b hb => Or.inl hb)
          clear hK K
          try simp only [Act.put, List.setIfInBounds_toArray, List.set_cons_zero, List.set_cons_succ]
          refine wpAnyH_ready (rs := [3]) (by kernel_rfl) (by simp) ?_
          refine (AllReadyH.cons (o := ({ dst := some 62, op := Go.Op.call { callee := Go.Callee.builtin Go.Builtin.append, args := #[Go.Operand.tmp 59, Go.Operand.tmp 61], argTypes := #[22, 22] }, type := 22, pos := "table.go:131", after := #[{ on := 0, ground := Go.Ground.data }, { on := 2, ground := Go.Ground.data }], guard := none } : Oper)) rfl (fun K hK => ?_) AllReadyH.nil)
          (refine step_appendN rfl (.tmp 59) (.tmp 61) 22 rfl 39 (.agg Try.zeroCells39) 65 72 Try.underlying22 info39 zero39 (by omega) (.slice ao nO co) nO (cellsOf O) rfl (after_build jsD.so).1 (some ⟨_, 0, none⟩) 1 1 y.cells rfl (res_len1 y) (by simp) (after_build jsD.so).2.1 (Res.one y) (by simp only [maxLen]; omega) (by omega) ?_; intro a6 c6 w6 hs6 hk6 hf6)
          refine hK.out _ _ ?_ (fun hHeld2 => ?_)
          · (try dsimp only); first | exact (Keep.refl _ _).drew | exact ((Keep.refl _ _).drew).alloc _ | exact (((Keep.refl _ _).drew).alloc _).trans hk6 (fun b hb => Or.inl hb)
          clear hK K
          try simp only [Act.put, List.setIfInBounds_toArray, List.set_cons_zero, List.set_cons_succ]
          refine wpAnyH_take (i := 6) (oi := ({ dst := some 10, op := Go.Op.assign (Go.Operand.tmp 62), type := 22, pos := "table.go:131", after := #[{ on := 3, ground := Go.Ground.data }, { on := 3, ground := Go.Ground.chain }, { on := 0, ground := Go.Ground.phase }, { on := 1, ground := Go.Ground.phase }, { on := 2, ground := Go.Ground.phase }, { on := 3, ground := Go.Ground.phase }, { on := 4, ground := Go.Ground.textOnly Go.Departure.lateStores }, { on := 5, ground := Go.Ground.textOnly Go.Departure.lateStoresUnsure }], guard := none } : Oper)) (v := ?_) rfl (by kernel_rfl) (by kernel_rfl) (by kernel_rfl) (fun _ _ _ h => h) (Or.inl ⟨by rfl, ?_⟩) (by assumption) ?_
          rotate_left
          · (intro w hSw; (try dsimp only at hSw); go_simp; try with_reducible rfl)
          try simp only [Act.put, List.setIfInBounds_toArray, List.set_cons_zero, List.set_cons_succ]
          refine wpAnyH_take (i := 7) (oi := ({ dst := some 1, op := Go.Op.assign (Go.Operand.tmp 64), type := 22, pos := "table.go:131", after := #[{ on := 5, ground := Go.Ground.data }, { on := 6, ground := Go.Ground.chain }, { on := 0, ground := Go.Ground.phase }, { on := 1, ground := Go.Ground.phase }, { on := 2, ground := Go.Ground.phase }, { on := 3, ground := Go.Ground.phase }, { on := 4, ground := Go.Ground.phase }, { on := 5, ground := Go.Ground.phase }, { on := 6, ground := Go.Ground.phase }], guard := none } : Oper)) (v := ?_) rfl (by kernel_rfl) (by kernel_rfl) (by kernel_rfl) (fun _ _ _ h => h) (Or.inl ⟨by rfl, ?_⟩) (by assumption) ?_
          rotate_left
          · (intro w hSw; (try dsimp only at hSw); go_simp; try with_reducible rfl)
          try simp only [Act.put, List.setIfInBounds_toArray, List.set_cons_zero, List.set_cons_succ]
          refine wpAnyH_done (by kernel_rfl) ?_ _
          refine NoPanic.normal ?_
          have jsF := (jsD.keep0 (after_build jsD.so (x := y)).2.2).out (Z := [y]) rfl (by rw [cellsOf_one]; exact hs6) hk6 hf6; go_wp2_with fail; exact ⟨⟨_, _, _, _, _, _, _, _, _, _, _, _, _, _, _, _, rfl, rfl, rfl, rfl, HRS.out.1, HRS.out.2.2.2, jsF, by rw [← HJ.out.1, joinO_gt (nlt HD.out.1) (id HD.out.2), List.append_assoc]; rfl, by rw [← HJ.out.2, joinK_gt (nlt HD.out.1) (id HD.out.2)], by omega, by omega⟩, by simp [slLen]; omega⟩
        · go_simp
          refine hK.out _ _ ?_ (fun hHeld4 => ?_)
          · (try dsimp only); first | exact (Keep.refl [] _).drew | exact Keep.alloc (by assumption) _ | exact Keep.trans (by assumption) k9 (fun b hb => Or.inr (by simp at hb; subst hb; simp)) | exact Keep.trans (by assumption) k8 (fun b hb => Or.inr (by simp at hb; subst hb; simp))
          clear hK K
          try simp only [Act.put, List.setIfInBounds_toArray, List.set_cons_zero, List.set_cons_succ]
          refine wpAnyH_ready (rs := [6]) (by kernel_rfl) (by simp) ?_
          refine (AllReadyH.cons (o := ({ dst := some 12, op := Go.Op.alloc 39, type := 0, pos := "table.go:125", after := #[], guard := none } : Oper)) rfl (fun K hK => ?_) AllReadyH.nil)
          go_simp
          refine hK.out _ _ ?_ (fun hHeld5 => ?_)
          · (try dsimp only); first | exact (Keep.refl [] _).drew | exact Keep.alloc (by assumption) _ | exact Keep.trans (by assumption) k9 (fun b hb => Or.inr (by simp at hb; subst hb; simp)) | exact Keep.trans (by assumption) k8 (fun b hb => Or.inr (by simp at hb; subst hb; simp))
          clear hK K
          try simp only [Act.put, List.setIfInBounds_toArray, List.set_cons_zero, List.set_cons_succ]
          refine wpAnyH_ready (rs := [8]) (by kernel_rfl) (by simp) ?_
          refine (AllReadyH.cons (o := ({ dst := none, op := Go.Op.store 39 (Go.Operand.tmp 12) (Go.Operand.tmp 37), type := 0, pos := "table.go:125", after := #[{ on := 6, ground := Go.Ground.data }, { on := 2, ground := Go.Ground.data }, { on := 0, ground := Go.Ground.phase }, { on := 1, ground := Go.Ground.phase }, { on := 2, ground := Go.Ground.phase }, { on := 3, ground := Go.Ground.textOnly Go.Departure.lateStores }, { on := 4, ground := Go.Ground.textOnly Go.Departure.lateStores }, { on := 5, ground := Go.Ground.textOnly Go.Departure.lateStores }, { on := 6, ground := Go.Ground.phase }, { on := 7, ground := Go.Ground.phase }], guard := none } : Oper)) rfl (fun K hK => ?_) AllReadyH.nil)
          (refine step_storeB rfl (.tmp 12) (.tmp 37) rfl _ x Try.zeroCells39 rfl rfl (by first | exact (Blk.new _ _ 39).alloc _ | exact Blk.new' _ _ 39 (by simp)) rfl ?_; intro w8 hB8 k8)
          refine hK.out _ _ ?_ (fun hHeld6 => ?_)
          · (try dsimp only); first | exact (Keep.refl [] _).drew | exact Keep.alloc (by assumption) _ | exact Keep.trans (by assumption) k9 (fun b hb => Or.inr (by simp at hb; subst hb; simp)) | exact Keep.trans (by assumption) k8 (fun b hb => Or.inr (by simp at hb; subst hb; simp))
          clear hK K
          try simp only [Act.put, List.setIfInBounds_toArray, List.set_cons_zero, List.set_cons_succ]
          refine wpAnyH_ready (rs := [9]) (by kernel_rfl) (by simp) ?_
          refine (AllReadyH.cons (o := ({ dst := none, op := Go.Op.store 39 (Go.Operand.tmp 13) (Go.Operand.tmp 40), type := 0, pos := "table.go:125", after := #[{ on := 7, ground := Go.Ground.data }, { on := 5, ground := Go.Ground.data }, { on := 8, ground := Go.Ground.chain }, { on := 0, ground := Go.Ground.phase }, { on := 1, ground := Go.Ground.phase }, { on := 2, ground := Go.Ground.phase }, { on := 3, ground := Go.Ground.phase }, { on := 4, ground := Go.Ground.phase }, { on := 5, ground := Go.Ground.phase }, { on := 6, ground := Go.Ground.phase }, { on := 7, ground := Go.Ground.phase }, { on := 8, ground := Go.Ground.phase }], guard := none } : Oper)) rfl (fun K hK => ?_) AllReadyH.nil)
          (refine step_storeB rfl (.tmp 13) (.tmp 40) rfl _ y Try.zeroCells39 rfl rfl (by refine Blk.keep ?_ k8 (by simp); first | exact (Blk.new _ _ 39).alloc _ | exact Blk.new' _ _ 39 (by simp)) rfl ?_; intro w9 hB9 k9; have hB12 := hB8.keep k9 (by simp))
          refine hK.out _ _ ?_ (fun hHeld7 => ?_)
          · (try dsimp only); first | exact (Keep.refl [] _).drew | exact Keep.alloc (by assumption) _ | exact Keep.trans (by assumption) k9 (fun b hb => Or.inr (by simp at hb; subst hb; simp)) | exact Keep.trans (by assumption) k8 (fun b hb => Or.inr (by simp at hb; subst hb; simp))
          clear hK K
          try simp only [Act.put, List.setIfInBounds_toArray, List.set_cons_zero, List.set_cons_succ]
          refine wpAnyH_done (by kernel_rfl) ?_ _
          refine NoPanic.normal ?_
          go_upto_region 12 with (first
            | (refine wpList_load_mid rfl 37 (.tmp 42) rfl _ 0 rfl (bs x.act) _ (rangeAt_act (rangeAt_of_blk hB12)) Try.underlying37 rfl (hi37 x.la) ?_)
            | (refine wpList_load_mid rfl 37 (.tmp 44) rfl _ 0 rfl (bs y.act) _ (rangeAt_act (rangeAt_of_blk hB9)) Try.underlying37 rfl (hi37 y.la) ?_)
            | (go_at_call 43; refine (below_any x.act y.act _ x.la y.la).mono ?_; rintro e w10 ⟨rfl, k10⟩; rw [D1.out])
            | fail)
          have hB12a := hB12.keep k10 (by simp)
          have hB9a := hB9.keep k10 (by simp)
          have js10 := (js.keep0 (by assumption : Keep [] wr w9)).keep0 k10
          go_upto_region 13 with (first
            | (refine wpList_load_mid rfl 37 (.tmp 54) rfl _ 0 rfl (bs y.act) _ (rangeAt_act (rangeAt_of_blk hB9a)) Try.underlying37 rfl (hi37 y.la) ?_)
            | (refine wpList_load_mid rfl 37 (.tmp 56) rfl _ 0 rfl (bs x.act) _ (rangeAt_act (rangeAt_of_blk hB12a)) Try.underlying37 rfl (hi37 x.la) ?_)
            | (go_at_call 43; refine (below_any y.act x.act _ y.la x.la).mono ?_; rintro e w11 ⟨rfl, k11⟩; rw [D2.out])
            | fail)
          have hB12b := hB12a.keep k11 (by simp)
          have hB9b := hB9a.keep k11 (by simp)
          have js11 := js10.keep0 k11
          have jsD := js11.keep0 ((Keep.refl [] _).drew)
          have hne : ∀ P, wr.heap.size ≤ P → P ∉ blks (.slice ao nO co) := fun P hP hb => by have := hvo P hb; omega
          refine wp_region_noPanic ?_
          refine wp_region_held_drew (S := fun W => Keep (blks (.slice ao nO co)) w11 W) (by kernel_rfl) ?_ (fun hHeld0 => ?_)
          · (try dsimp only); first | exact (Keep.refl _ _).drew | exact ((Keep.refl _ _).drew).alloc _ | exact (((Keep.refl _ _).drew).alloc _).trans hk6 (fun b hb => Or.inl hb)
          refine wpAnyH_take (i := 0) (oi := ({ dst := some 59, op := Go.Op.move (Go.Operand.tmp 10), type := 22, pos := "table.go:131", after := #[], guard := none } : Oper)) (v := ?_) rfl (by kernel_rfl) (by kernel_rfl) (by kernel_rfl) (fun _ _ _ h => h) (Or.inl ⟨by rfl, ?_⟩) (by assumption) ?_
          rotate_left
          · (intro w hSw; (try dsimp only at hSw); go_simp; try with_reducible rfl)
          try simp only [Act.put, List.setIfInBounds_toArray, List.set_cons_zero, List.set_cons_succ]
          refine wpAnyH_take (i := 1) (oi := ({ dst := some 60, op := Go.Op.load 39 (Go.Operand.tmp 13), type := 39, pos := "table.go:131", after := #[], guard := none } : Oper)) (v := .agg (List.toArray y.cells)) rfl (by kernel_rfl) (by kernel_rfl) (by kernel_rfl) (fun _ _ _ h => h) (yieldsIf_load_mid (by rfl) _ _ rfl _ _ rfl y.cells _ (fun w hSw => (rangeAt_of_blk (hB9b.keep hSw (hne _ (by omega))))) Try.underlying39 rfl (hi39 y)) (by assumption) ?_
          try simp only [Act.put, List.setIfInBounds_toArray, List.set_cons_zero, List.set_cons_succ]
          refine wpAnyH_take (i := 4) (oi := ({ dst := some 63, op := Go.Op.move (Go.Operand.tmp 1), type := 22, pos := "table.go:131", after := #[], guard := none } : Oper)) (v := ?_) rfl (by kernel_rfl) (by kernel_rfl) (by kernel_rfl) (fun _ _ _ h => h) (Or.inl ⟨by rfl, ?_⟩) (by assumption) ?_
          rotate_left
          · (intro w hSw; (try dsimp only at hSw); go_simp; try with_reducible rfl)
          try simp only [Act.put, List.setIfInBounds_toArray, List.set_cons_zero, List.set_cons_succ]
          refine wpAnyH_take (i := 5) (oi := ({ dst := some 64, op := Go.Op.slice 22 (Go.Operand.tmp 63) (some (Go.Operand.const (Go.Value.int Go.IntKind.i64 1))) none none, type := 22, pos := "table.go:131", after := #[{ on := 4, ground := Go.Ground.data }], guard := none } : Oper)) (v := ?_) rfl (by kernel_rfl) (by kernel_rfl) (by kernel_rfl) (fun _ _ _ h => h) (Or.inl ⟨by rfl, ?_⟩) (by assumption) ?_
          rotate_left
          · (intro w hSw; (try dsimp only at hSw); go_simp; try with_reducible rfl)
          try simp only [Act.put, List.setIfInBounds_toArray, List.set_cons_zero, List.set_cons_succ]
          refine wpAnyH_ready (rs := [2]) (by kernel_rfl) (by simp) ?_
          refine (AllReadyH.cons (o := ({ dst := some 61, op := Go.Op.buildSlice 22 1 #[(0, Go.Operand.tmp 60)], type := 22, pos := "table.go:131", after := #[{ on := 1, ground := Go.Ground.data }], guard := none } : Oper)) rfl (fun K hK => ?_) AllReadyH.nil)
          (refine step_build1 rfl 22 39 (.tmp 60) rfl y.cells.toArray rfl (.agg Try.zeroCells39) 65 72 Try.underlying22 info39 (by simp [Res.len]) (by omega) (by omega) ?_)
          refine hK.out _ _ ?_ (fun hHeld1 => ?_)
          · (try dsimp only); first | exact (Keep.refl _ _).drew | exact ((Keep.refl _ _).drew).alloc _ | exact (((Keep.refl _ _).drew).alloc _).trans hk6 (fun b hb => Or.inl hb)
          clear hK K
          try simp only [Act.put, List.setIfInBounds_toArray, List.set_cons_zero, List.set_cons_succ]
          refine wpAnyH_ready (rs := [3]) (by kernel_rfl) (by simp) ?_
          refine (AllReadyH.cons (o := ({ dst := some 62, op := Go.Op.call { callee := Go.Callee.builtin Go.Builtin.append, args := #[Go.Operand.tmp 59, Go.Operand.tmp 61], argTypes := #[22, 22] }, type := 22, pos := "table.go:131", after := #[{ on := 0, ground := Go.Ground.data }, { on := 2, ground := Go.Ground.data }], guard := none } : Oper)) rfl (fun K hK => ?_) AllReadyH.nil)
          (refine step_appendN rfl (.tmp 59) (.tmp 61) 22 rfl 39 (.agg Try.zeroCells39) 65 72 Try.underlying22 info39 zero39 (by omega) (.slice ao nO co) nO (cellsOf O) rfl (after_build jsD.so).1 (some ⟨_, 0, none⟩) 1 1 y.cells rfl (res_len1 y) (by simp) (after_build jsD.so).2.1 (Res.one y) (by simp only [maxLen]; omega) (by omega) ?_; intro a6 c6 w6 hs6 hk6 hf6)
          refine hK.out _ _ ?_ (fun hHeld2 => ?_)
          · (try dsimp only); first | exact (Keep.refl _ _).drew | exact ((Keep.refl _ _).drew).alloc _ | exact (((Keep.refl _ _).drew).alloc _).trans hk6 (fun b hb => Or.inl hb)
          clear hK K
          try simp only [Act.put, List.setIfInBounds_toArray, List.set_cons_zero, List.set_cons_succ]
          refine wpAnyH_take (i := 6) (oi := ({ dst := some 10, op := Go.Op.assign (Go.Operand.tmp 62), type := 22, pos := "table.go:131", after := #[{ on := 3, ground := Go.Ground.data }, { on := 3, ground := Go.Ground.chain }, { on := 0, ground := Go.Ground.phase }, { on := 1, ground := Go.Ground.phase }, { on := 2, ground := Go.Ground.phase }, { on := 3, ground := Go.Ground.phase }, { on := 4, ground := Go.Ground.textOnly Go.Departure.lateStores }, { on := 5, ground := Go.Ground.textOnly Go.Departure.lateStoresUnsure }], guard := none } : Oper)) (v := ?_) rfl (by kernel_rfl) (by kernel_rfl) (by kernel_rfl) (fun _ _ _ h => h) (Or.inl ⟨by rfl, ?_⟩) (by assumption) ?_
          rotate_left
          · (intro w hSw; (try dsimp only at hSw); go_simp; try with_reducible rfl)
          try simp only [Act.put, List.setIfInBounds_toArray, List.set_cons_zero, List.set_cons_succ]
          refine wpAnyH_take (i := 7) (oi := ({ dst := some 1, op := Go.Op.assign (Go.Operand.tmp 64), type := 22, pos := "table.go:131", after := #[{ on := 5, ground := Go.Ground.data }, { on := 6, ground := Go.Ground.chain }, { on := 0, ground := Go.Ground.phase }, { on := 1, ground := Go.Ground.phase }, { on := 2, ground := Go.Ground.phase }, { on := 3, ground := Go.Ground.phase }, { on := 4, ground := Go.Ground.phase }, { on := 5, ground := Go.Ground.phase }, { on := 6, ground := Go.Ground.phase }], guard := none } : Oper)) (v := ?_) rfl (by kernel_rfl) (by kernel_rfl) (by kernel_rfl) (fun _ _ _ h => h) (Or.inl ⟨by rfl, ?_⟩) (by assumption) ?_
          rotate_left
          · (intro w hSw; (try dsimp only at hSw); go_simp; try with_reducible rfl)
          try simp only [Act.put, List.setIfInBounds_toArray, List.set_cons_zero, List.set_cons_succ]
          refine wpAnyH_done (by kernel_rfl) ?_ _
          refine NoPanic.normal ?_
          have jsF := (jsD.keep0 (after_build jsD.so (x := y)).2.2).out (Z := [y]) rfl (by rw [cellsOf_one]; exact hs6) hk6 hf6; go_wp2_with fail; exact ⟨⟨_, _, _, _, _, _, _, _, _, _, _, _, _, _, _, _, rfl, rfl, rfl, rfl, HRS.out.1, HRS.out.2.2.2, jsF, by rw [← HJ.out.1, joinO_gt (nlt HD.out.1) (id HD.out.2), List.append_assoc]; rfl, by rw [← HJ.out.2, joinK_gt (nlt HD.out.1) (id HD.out.2)], by omega, by omega⟩, by simp [slLen]; omega⟩
      have D1 := Lib.hid (decide_eq_false h1)
      have D2 := Lib.hid (decide_eq_false h2)
      have HD := Lib.hid (And.intro h1 h2)
      clear h1 h2
      by_cases hxy : x = y
      · have t1 : decide (x = y) = true := by simpa using hxy
        have HXY := Lib.hid hxy
        clear hxy
        go_upto_region 9 with fail
        refine wp_region_noPanic ?_
        refine wp_region_held_drew (S := fun W => Keep [] wr W) (by kernel_rfl) ?_ (fun hHeld0 => ?_)
        · (try dsimp only); first | exact (Keep.refl [] _).drew | exact Keep.alloc (by assumption) _ | exact Keep.trans (by assumption) k9 (fun b hb => Or.inr (by simp at hb; subst hb; simp)) | exact Keep.trans (by assumption) k8 (fun b hb => Or.inr (by simp at hb; subst hb; simp))
        refine wpAnyH_take (i := 0) (oi := ({ dst := some 35, op := Go.Op.move (Go.Operand.tmp 0), type := 22, pos := "table.go:125", after := #[], guard := none } : Oper)) (v := ?_) rfl (by kernel_rfl) (by kernel_rfl) (by kernel_rfl) (fun _ _ _ h => h) (Or.inl ⟨by rfl, ?_⟩) (by assumption) ?_
        rotate_left
        · (intro w hSw; (try dsimp only at hSw); go_simp; try with_reducible rfl)
        try simp only [Act.put, List.setIfInBounds_toArray, List.set_cons_zero, List.set_cons_succ]
        refine wpAnyH_take (i := 1) (oi := ({ dst := some 36, op := Go.Op.indexAddr 22 (Go.Operand.tmp 35) (Go.Operand.const (Go.Value.int Go.IntKind.i64 0)), type := 0, pos := "table.go:125", after := #[{ on := 0, ground := Go.Ground.data }], guard := none } : Oper)) (v := ?_) rfl (by kernel_rfl) (by kernel_rfl) (by kernel_rfl) (fun _ _ _ h => h) (Or.inl ⟨by rfl, ?_⟩) (by assumption) ?_
        rotate_left
        · (intro w hSw; (try dsimp only at hSw); go_simp; try with_reducible rfl)
        try simp only [Act.put, List.setIfInBounds_toArray, List.set_cons_zero, List.set_cons_succ]
        refine wpAnyH_take (i := 2) (oi := ({ dst := some 37, op := Go.Op.load 39 (Go.Operand.tmp 36), type := 39, pos := "table.go:125", after := #[{ on := 1, ground := Go.Ground.data }], guard := none } : Oper)) (v := .agg (List.toArray x.cells)) rfl (by kernel_rfl) (by kernel_rfl) (by kernel_rfl) (fun _ _ _ h => h) (yieldsIf_load_mid (by rfl) _ _ rfl _ _ rfl x.cells _ (fun w hSw => (rangeAt_keep rx hSw (by simp))) Try.underlying39 rfl (hi39 x)) (by assumption) ?_
        try simp only [Act.put, List.setIfInBounds_toArray, List.set_cons_zero, List.set_cons_succ]
        refine wpAnyH_take (i := 3) (oi := ({ dst := some 38, op := Go.Op.move (Go.Operand.tmp 1), type := 22, pos := "table.go:125", after := #[{ on := 8, ground := Go.Ground.gcOnly Go.Departure.lateStores }], guard := none } : Oper)) (v := ?_) rfl (by kernel_rfl) (by kernel_rfl) (by kernel_rfl) (fun _ _ _ h => h) (Or.inl ⟨by rfl, ?_⟩) (by assumption) ?_
        rotate_left
        · (intro w hSw; (try dsimp only at hSw); go_simp; try with_reducible rfl)
        try simp only [Act.put, List.setIfInBounds_toArray, List.set_cons_zero, List.set_cons_succ]
        refine wpAnyH_take (i := 4) (oi := ({ dst := some 39, op := Go.Op.indexAddr 22 (Go.Operand.tmp 38) (Go.Operand.const (Go.Value.int Go.IntKind.i64 0)), type := 0, pos := "table.go:125", after := #[{ on := 3, ground := Go.Ground.data }, { on := 8, ground := Go.Ground.gcOnly Go.Departure.lateStores }], guard := none } : Oper)) (v := ?_) rfl (by kernel_rfl) (by kernel_rfl) (by kernel_rfl) (fun _ _ _ h => h) (Or.inl ⟨by rfl, ?_⟩) (by assumption) ?_
        rotate_left
        · (intro w hSw; (try dsimp only at hSw); go_simp; try with_reducible rfl)
        try simp only [Act.put, List.setIfInBounds_toArray, List.set_cons_zero, List.set_cons_succ]
        refine wpAnyH_take (i := 5) (oi := ({ dst := some 40, op := Go.Op.load 39 (Go.Operand.tmp 39), type := 39, pos := "table.go:125", after := #[{ on := 4, ground := Go.Ground.data }, { on := 8, ground := Go.Ground.gcOnly Go.Departure.lateStores }], guard := none } : Oper)) (v := .agg (List.toArray y.cells)) rfl (by kernel_rfl) (by kernel_rfl) (by kernel_rfl) (fun _ _ _ h => h) (yieldsIf_load_mid (by rfl) _ _ rfl _ _ rfl y.cells _ (fun w hSw => (rangeAt_keep ry hSw (by simp))) Try.underlying39 rfl (hi39 y)) (by assumption) ?_
        try simp only [Act.put, List.setIfInBounds_toArray, List.set_cons_zero, List.set_cons_succ]
        refine wpAnyH_ready (rs := [6, 7]) (by kernel_rfl) (by simp) ?_
        refine (AllReadyH.cons (o := ({ dst := some 12, op := Go.Op.alloc 39, type := 0, pos := "table.go:125", after := #[], guard := none } : Oper)) rfl (fun K hK => ?_) (AllReadyH.cons (o := ({ dst := some 13, op := Go.Op.alloc 39, type := 0, pos := "table.go:125", after := #[], guard := none } : Oper)) rfl (fun K hK => ?_) AllReadyH.nil))
        · go_simp
          refine hK.out _ _ ?_ (fun hHeld1 => ?_)
          · (try dsimp only); first | exact (Keep.refl [] _).drew | exact Keep.alloc (by assumption) _ | exact Keep.trans (by assumption) k9 (fun b hb => Or.inr (by simp at hb; subst hb; simp)) | exact Keep.trans (by assumption) k8 (fun b hb => Or.inr (by simp at hb; subst hb; simp))
          clear hK K
          try simp only [Act.put, List.setIfInBounds_toArray, List.set_cons_zero, List.set_cons_succ]
          refine wpAnyH_ready (rs := [7]) (by kernel_rfl) (by simp) ?_
          refine (AllReadyH.cons (o := ({ dst := some 13, op := Go.Op.alloc 39, type := 0, pos := "table.go:125", after := #[], guard := none } : Oper)) rfl (fun K hK => ?_) AllReadyH.nil)
          go_simp
          refine hK.out _ _ ?_ (fun hHeld2 => ?_)
          · (try dsimp only); first | exact (Keep.refl [] _).drew | exact Keep.alloc (by assumption) _ | exact Keep.trans (by assumption) k9 (fun b hb => Or.inr (by simp at hb; subst hb; simp)) | exact Keep.trans (by assumption) k8 (fun b hb => Or.inr (by simp at hb; subst hb; simp))
          clear hK K
          try simp only [Act.put, List.setIfInBounds_toArray, List.set_cons_zero, List.set_cons_succ]
          refine wpAnyH_ready (rs := [8]) (by kernel_rfl) (by simp) ?_
          refine (AllReadyH.cons (o := ({ dst := none, op := Go.Op.store 39 (Go.Operand.tmp 12) (Go.Operand.tmp 37), type := 0, pos := "table.go:125", after := #[{ on := 6, ground := Go.Ground.data }, { on := 2, ground := Go.Ground.data }, { on := 0, ground := Go.Ground.phase }, { on := 1, ground := Go.Ground.phase }, { on := 2, ground := Go.Ground.phase }, { on := 3, ground := Go.Ground.textOnly Go.Departure.lateStores }, { on := 4, ground := Go.Ground.textOnly Go.Departure.lateStores }, { on := 5, ground := Go.Ground.textOnly Go.Departure.lateStores }, { on := 6, ground := Go.Ground.phase }, { on := 7, ground := Go.Ground.phase }], guard := none } : Oper)) rfl (fun K hK => ?_) AllReadyH.nil)
          (refine step_storeB rfl (.tmp 12) (.tmp 37) rfl _ x Try.zeroCells39 rfl rfl (by first | exact (Blk.new _ _ 39).alloc _ | exact Blk.new' _ _ 39 (by simp)) rfl ?_; intro w8 hB8 k8)
          refine hK.out _ _ ?_ (fun hHeld3 => ?_)
          · (try dsimp only); first | exact (Keep.refl [] _).drew | exact Keep.alloc (by assumption) _ | exact Keep.trans (by assumption) k9 (fun b hb => Or.inr (by simp at hb; subst hb; simp)) | exact Keep.trans (by assumption) k8 (fun b hb => Or.inr (by simp at hb; subst hb; simp))
          clear hK K
          try simp only [Act.put, List.setIfInBounds_toArray, List.set_cons_zero, List.set_cons_succ]
          refine wpAnyH_ready (rs := [9]) (by kernel_rfl) (by simp) ?_
          refine (AllReadyH.cons (o := ({ dst := none, op := Go.Op.store 39 (Go.Operand.tmp 13) (Go.Operand.tmp 40), type := 0, pos := "table.go:125", after := #[{ on := 7, ground := Go.Ground.data }, { on := 5, ground := Go.Ground.data }, { on := 8, ground := Go.Ground.chain }, { on := 0, ground := Go.Ground.phase }, { on := 1, ground := Go.Ground.phase }, { on := 2, ground := Go.Ground.phase }, { on := 3, ground := Go.Ground.phase }, { on := 4, ground := Go.Ground.phase }, { on := 5, ground := Go.Ground.phase }, { on := 6, ground := Go.Ground.phase }, { on := 7, ground := Go.Ground.phase }, { on := 8, ground := Go.Ground.phase }], guard := none } : Oper)) rfl (fun K hK => ?_) AllReadyH.nil)
          (refine step_storeB rfl (.tmp 13) (.tmp 40) rfl _ y Try.zeroCells39 rfl rfl (by refine Blk.keep ?_ k8 (by simp); first | exact (Blk.new _ _ 39).alloc _ | exact Blk.new' _ _ 39 (by simp)) rfl ?_; intro w9 hB9 k9; have hB12 := hB8.keep k9 (by simp))
          refine hK.out _ _ ?_ (fun hHeld4 => ?_)
          · (try dsimp only); first | exact (Keep.refl [] _).drew | exact Keep.alloc (by assumption) _ | exact Keep.trans (by assumption) k9 (fun b hb => Or.inr (by simp at hb; subst hb; simp)) | exact Keep.trans (by assumption) k8 (fun b hb => Or.inr (by simp at hb; subst hb; simp))
          clear hK K
          try simp only [Act.put, List.setIfInBounds_toArray, List.set_cons_zero, List.set_cons_succ]
          refine wpAnyH_done (by kernel_rfl) ?_ _
          refine NoPanic.normal ?_
          go_upto_region 12 with (first
            | (refine wpList_load_mid rfl 37 (.tmp 42) rfl _ 0 rfl (bs x.act) _ (rangeAt_act (rangeAt_of_blk hB12)) Try.underlying37 rfl (hi37 x.la) ?_)
            | (refine wpList_load_mid rfl 37 (.tmp 44) rfl _ 0 rfl (bs y.act) _ (rangeAt_act (rangeAt_of_blk hB9)) Try.underlying37 rfl (hi37 y.la) ?_)
            | (go_at_call 43; refine (below_any x.act y.act _ x.la y.la).mono ?_; rintro e w10 ⟨rfl, k10⟩; rw [D1.out])
            | fail)
          have hB12a := hB12.keep k10 (by simp)
          have hB9a := hB9.keep k10 (by simp)
          have js10 := (js.keep0 (by assumption : Keep [] wr w9)).keep0 k10
          go_upto_region 14 with (first
            | (refine wpList_load_mid rfl 37 (.tmp 54) rfl _ 0 rfl (bs y.act) _ (rangeAt_act (rangeAt_of_blk hB9a)) Try.underlying37 rfl (hi37 y.la) ?_)
            | (refine wpList_load_mid rfl 37 (.tmp 56) rfl _ 0 rfl (bs x.act) _ (rangeAt_act (rangeAt_of_blk hB12a)) Try.underlying37 rfl (hi37 x.la) ?_)
            | (go_at_call 43; refine (below_any y.act x.act _ y.la x.la).mono ?_; rintro e w11 ⟨rfl, k11⟩; rw [D2.out])
            | fail)
          have hB12b := hB12a.keep k11 (by simp)
          have hB9b := hB9a.keep k11 (by simp)
          have js11 := js10.keep0 k11
          go_upto_region 17 with (first
            | (refine wpList_load_mid rfl 39 (.tmp 12) rfl _ 0 rfl x.cells _ (rangeAt_of_blk hB12b) Try.underlying39 rfl (hi39 x) ?_)
            | (refine wpList_load_mid rfl 39 (.tmp 13) rfl _ 0 rfl y.cells _ (rangeAt_of_blk hB9b) Try.underlying39 rfl (hi39 y) ?_)
            | fail)
          have jsD := js11.keep0 ((Keep.refl [] _).drew)
          have hne : ∀ P, wr.heap.size ≤ P → P ∉ blks (.slice ao nO co) := fun P hP hb => by have := hvo P hb; omega
          refine wp_region_noPanic ?_
          refine wp_region_held_drew (S := fun W => Keep (blks (.slice ao nO co)) w11 W) (by kernel_rfl) ?_ (fun hHeld0 => ?_)
          · (try dsimp only); first | exact (Keep.refl _ _).drew | exact ((Keep.refl _ _).drew).alloc _ | exact (((Keep.refl _ _).drew).alloc _).trans hk6 (fun b hb => Or.inl hb)
          refine wpAnyH_take (i := 0) (oi := ({ dst := some 78, op := Go.Op.move (Go.Operand.tmp 10), type := 22, pos := "table.go:137", after := #[], guard := none } : Oper)) (v := ?_) rfl (by kernel_rfl) (by kernel_rfl) (by kernel_rfl) (fun _ _ _ h => h) (Or.inl ⟨by rfl, ?_⟩) (by assumption) ?_
          rotate_left
          · (intro w hSw; (try dsimp only at hSw); go_simp; try with_reducible rfl)
          try simp only [Act.put, List.setIfInBounds_toArray, List.set_cons_zero, List.set_cons_succ]
          refine wpAnyH_take (i := 1) (oi := ({ dst := some 79, op := Go.Op.load 39 (Go.Operand.tmp 12), type := 39, pos := "table.go:137", after := #[], guard := none } : Oper)) (v := .agg (List.toArray x.cells)) rfl (by kernel_rfl) (by kernel_rfl) (by kernel_rfl) (fun _ _ _ h => h) (yieldsIf_load_mid (by rfl) _ _ rfl _ _ rfl x.cells _ (fun w hSw => (rangeAt_of_blk (hB12b.keep hSw (hne _ (by omega))))) Try.underlying39 rfl (hi39 x)) (by assumption) ?_
          try simp only [Act.put, List.setIfInBounds_toArray, List.set_cons_zero, List.set_cons_succ]
          refine wpAnyH_take (i := 4) (oi := ({ dst := some 82, op := Go.Op.move (Go.Operand.tmp 0), type := 22, pos := "table.go:137", after := #[], guard := none } : Oper)) (v := ?_) rfl (by kernel_rfl) (by kernel_rfl) (by kernel_rfl) (fun _ _ _ h => h) (Or.inl ⟨by rfl, ?_⟩) (by assumption) ?_
          rotate_left
          · (intro w hSw; (try dsimp only at hSw); go_simp; try with_reducible rfl)
          try simp only [Act.put, List.setIfInBounds_toArray, List.set_cons_zero, List.set_cons_succ]
          refine wpAnyH_take (i := 5) (oi := ({ dst := some 83, op := Go.Op.slice 22 (Go.Operand.tmp 82) (some (Go.Operand.const (Go.Value.int Go.IntKind.i64 1))) none none, type := 22, pos := "table.go:137", after := #[{ on := 4, ground := Go.Ground.data }], guard := none } : Oper)) (v := ?_) rfl (by kernel_rfl) (by kernel_rfl) (by kernel_rfl) (fun _ _ _ h => h) (Or.inl ⟨by rfl, ?_⟩) (by assumption) ?_
          rotate_left
          · (intro w hSw; (try dsimp only at hSw); go_simp; try with_reducible rfl)
          try simp only [Act.put, List.setIfInBounds_toArray, List.set_cons_zero, List.set_cons_succ]
          refine wpAnyH_take (i := 6) (oi := ({ dst := some 84, op := Go.Op.move (Go.Operand.tmp 1), type := 22, pos := "table.go:137", after := #[], guard := none } : Oper)) (v := ?_) rfl (by kernel_rfl) (by kernel_rfl) (by kernel_rfl) (fun _ _ _ h => h) (Or.inl ⟨by rfl, ?_⟩) (by assumption) ?_
          rotate_left
          · (intro w hSw; (try dsimp only at hSw); go_simp; try with_reducible rfl)
          try simp only [Act.put, List.setIfInBounds_toArray, List.set_cons_zero, List.set_cons_succ]
          refine wpAnyH_take (i := 7) (oi := ({ dst := some 85, op := Go.Op.slice 22 (Go.Operand.tmp 84) (some (Go.Operand.const (Go.Value.int Go.IntKind.i64 1))) none none, type := 22, pos := "table.go:137", after := #[{ on := 6, ground := Go.Ground.data }], guard := none } : Oper)) (v := ?_) rfl (by kernel_rfl) (by kernel_rfl) (by kernel_rfl) (fun _ _ _ h => h) (Or.inl ⟨by rfl, ?_⟩) (by assumption) ?_
          rotate_left
          · (intro w hSw; (try dsimp only at hSw); go_simp; try with_reducible rfl)
          try simp only [Act.put, List.setIfInBounds_toArray, List.set_cons_zero, List.set_cons_succ]
          refine wpAnyH_ready (rs := [2]) (by kernel_rfl) (by simp) ?_
          refine (AllReadyH.cons (o := ({ dst := some 80, op := Go.Op.buildSlice 22 1 #[(0, Go.Operand.tmp 79)], type := 22, pos := "table.go:137", after := #[{ on := 1, ground := Go.Ground.data }], guard := none } : Oper)) rfl (fun K hK => ?_) AllReadyH.nil)
          (refine step_build1 rfl 22 39 (.tmp 79) rfl x.cells.toArray rfl (.agg Try.zeroCells39) 65 72 Try.underlying22 info39 (by simp [Res.len]) (by omega) (by omega) ?_)
          refine hK.out _ _ ?_ (fun hHeld1 => ?_)
          · (try dsimp only); first | exact (Keep.refl _ _).drew | exact ((Keep.refl _ _).drew).alloc _ | exact (((Keep.refl _ _).drew).alloc _).trans hk6 (fun b hb => Or.inl hb)
          clear hK K
          try simp only [Act.put, List.setIfInBounds_toArray, List.set_cons_zero, List.set_cons_succ]
          refine wpAnyH_ready (rs := [3]) (by kernel_rfl) (by simp) ?_
          refine (AllReadyH.cons (o := ({ dst := some 81, op := Go.Op.call { callee := Go.Callee.builtin Go.Builtin.append, args := #[Go.Operand.tmp 78, Go.Operand.tmp 80], argTypes := #[22, 22] }, type := 22, pos := "table.go:137", after := #[{ on := 0, ground := Go.Ground.data }, { on := 2, ground := Go.Ground.data }], guard := none } : Oper)) rfl (fun K hK => ?_) AllReadyH.nil)
          (refine step_appendN rfl (.tmp 78) (.tmp 80) 22 rfl 39 (.agg Try.zeroCells39) 65 72 Try.underlying22 info39 zero39 (by omega) (.slice ao nO co) nO (cellsOf O) rfl (after_build jsD.so).1 (some ⟨_, 0, none⟩) 1 1 x.cells rfl (res_len1 x) (by simp) (after_build jsD.so).2.1 (Res.one x) (by simp only [maxLen]; omega) (by omega) ?_; intro a6 c6 w6 hs6 hk6 hf6)
          refine hK.out _ _ ?_ (fun hHeld2 => ?_)
          · (try dsimp only); first | exact (Keep.refl _ _).drew | exact ((Keep.refl _ _).drew).alloc _ | exact (((Keep.refl _ _).drew).alloc _).trans hk6 (fun b hb => Or.inl hb)
          clear hK K
          try simp only [Act.put, List.setIfInBounds_toArray, List.set_cons_zero, List.set_cons_succ]
          refine wpAnyH_take (i := 8) (oi := ({ dst := some 10, op := Go.Op.assign (Go.Operand.tmp 81), type := 22, pos := "table.go:137", after := #[{ on := 3, ground := Go.Ground.data }, { on := 3, ground := Go.Ground.chain }, { on := 0, ground := Go.Ground.phase }, { on := 1, ground := Go.Ground.phase }, { on := 2, ground := Go.Ground.phase }, { on := 3, ground := Go.Ground.phase }, { on := 4, ground := Go.Ground.textOnly Go.Departure.lateStores }, { on := 5, ground := Go.Ground.textOnly Go.Departure.lateStoresUnsure }, { on := 6, ground := Go.Ground.textOnly Go.Departure.lateStores }, { on := 7, ground := Go.Ground.textOnly Go.Departure.lateStoresUnsure }], guard := none } : Oper)) (v := ?_) rfl (by kernel_rfl) (by kernel_rfl) (by kernel_rfl) (fun _ _ _ h => h) (Or.inl ⟨by rfl, ?_⟩) (by assumption) ?_
          rotate_left
          · (intro w hSw; (try dsimp only at hSw); go_simp; try with_reducible rfl)
          try simp only [Act.put, List.setIfInBounds_toArray, List.set_cons_zero, List.set_cons_succ]
          refine wpAnyH_take (i := 9) (oi := ({ dst := some 0, op := Go.Op.assign (Go.Operand.tmp 83), type := 22, pos := "table.go:137", after := #[{ on := 5, ground := Go.Ground.data }, { on := 8, ground := Go.Ground.chain }, { on := 0, ground := Go.Ground.phase }, { on := 1, ground := Go.Ground.phase }, { on := 2, ground := Go.Ground.phase }, { on := 3, ground := Go.Ground.phase }, { on := 4, ground := Go.Ground.phase }, { on := 5, ground := Go.Ground.phase }, { on := 6, ground := Go.Ground.textOnly Go.Departure.lateStores }, { on := 7, ground := Go.Ground.textOnly Go.Departure.lateStoresUnsure }, { on := 8, ground := Go.Ground.phase }], guard := none } : Oper)) (v := ?_) rfl (by kernel_rfl) (by kernel_rfl) (by kernel_rfl) (fun _ _ _ h => h) (Or.inl ⟨by rfl, ?_⟩) (by assumption) ?_
          rotate_left
          · (intro w hSw; (try dsimp only at hSw); go_simp; try with_reducible rfl)
          try simp only [Act.put, List.setIfInBounds_toArray, List.set_cons_zero, List.set_cons_succ]
          refine wpAnyH_take (i := 10) (oi := ({ dst := some 1, op := Go.Op.assign (Go.Operand.tmp 85), type := 22, pos := "table.go:137", after := #[{ on := 7, ground := Go.Ground.data }, { on := 9, ground := Go.Ground.chain }, { on := 0, ground := Go.Ground.phase }, { on := 1, ground := Go.Ground.phase }, { on := 2, ground := Go.Ground.phase }, { on := 3, ground := Go.Ground.phase }, { on := 4, ground := Go.Ground.phase }, { on := 5, ground := Go.Ground.phase }, { on := 6, ground := Go.Ground.phase }, { on := 7, ground := Go.Ground.phase }, { on := 8, ground := Go.Ground.phase }, { on := 9, ground := Go.Ground.phase }], guard := none } : Oper)) (v := ?_) rfl (by kernel_rfl) (by kernel_rfl) (by kernel_rfl) (fun _ _ _ h => h) (Or.inl ⟨by rfl, ?_⟩) (by assumption) ?_
          rotate_left
          · (intro w hSw; (try dsimp only at hSw); go_simp; try with_reducible rfl)
          try simp only [Act.put, List.setIfInBounds_toArray, List.set_cons_zero, List.set_cons_succ]
          refine wpAnyH_done (by kernel_rfl) ?_ _
          refine NoPanic.normal ?_
          have jsF := (jsD.keep0 (after_build jsD.so (x := x)).2.2).out (Z := [x]) rfl (by rw [cellsOf_one]; exact hs6) hk6 hf6; go_wp2_with fail; exact ⟨⟨_, _, _, _, _, _, _, _, _, _, _, _, _, _, _, _, rfl, rfl, rfl, rfl, HRS.out.2.2.1, HRS.out.2.2.2, jsF, by rw [← HJ.out.1, joinO_eq (nlt HD.out.1) (nlt HD.out.2), pick_same HXY.out, List.append_assoc]; rfl, by rw [← HJ.out.2, joinK_eq (nlt HD.out.1) (nlt HD.out.2), if_pos HXY.out]; rfl, by omega, by omega⟩, by simp [slLen]; omega⟩
        · go_simp
          refine hK.out _ _ ?_ (fun hHeld4 => ?_)
          · (try dsimp only); first | exact (Keep.refl [] _).drew | exact Keep.alloc (by assumption) _ | exact Keep.trans (by assumption) k9 (fun b hb => Or.inr (by simp at hb; subst hb; simp)) | exact Keep.trans (by assumption) k8 (fun b hb => Or.inr (by simp at hb; subst hb; simp))
          clear hK K
          try simp only [Act.put, List.setIfInBounds_toArray, List.set_cons_zero, List.set_cons_succ]
          refine wpAnyH_ready (rs := [6]) (by kernel_rfl) (by simp) ?_
          refine (AllReadyH.cons (o := ({ dst := some 12, op := Go.Op.alloc 39, type := 0, pos := "table.go:125", after := #[], guard := none } : Oper)) rfl (fun K hK => ?_) AllReadyH.nil)
          go_simp
          refine hK.out _ _ ?_ (fun hHeld5 => ?_)
          · (try dsimp only); first | exact (Keep.refl [] _).drew | exact Keep.alloc (by assumption) _ | exact Keep.trans (by assumption) k9 (fun b hb => Or.inr (by simp at hb; subst hb; simp)) | exact Keep.trans (by assumption) k8 (fun b hb => Or.inr (by simp at hb; subst hb; simp))
          clear hK K
          try simp only [Act.put, List.setIfInBounds_toArray, List.set_cons_zero, List.set_cons_succ]
          refine wpAnyH_ready (rs := [8]) (by kernel_rfl) (by simp) ?_
          refine (AllReadyH.cons (o := ({ dst := none, op := Go.Op.store 39 (Go.Operand.tmp 12) (Go.Operand.tmp 37), type := 0, pos := "table.go:125", after := #[{ on := 6, ground := Go.Ground.data }, { on := 2, ground := Go.Ground.data }, { on := 0, ground := Go.Ground.phase }, { on := 1, ground := Go.Ground.phase }, { on := 2, ground := Go.Ground.phase }, { on := 3, ground := Go.Ground.textOnly Go.Departure.lateStores }, { on := 4, ground := Go.Ground.textOnly Go.Departure.lateStores }, { on := 5, ground := Go.Ground.textOnly Go.Departure.lateStores }, { on := 6, ground := Go.Ground.phase }, { on := 7, ground := Go.Ground.phase }], guard := none } : Oper)) rfl (fun K hK => ?_) AllReadyH.nil)
          (refine step_storeB rfl (.tmp 12) (.tmp 37) rfl _ x Try.zeroCells39 rfl rfl (by first | exact (Blk.new _ _ 39).alloc _ | exact Blk.new' _ _ 39 (by simp)) rfl ?_; intro w8 hB8 k8)
          refine hK.out _ _ ?_ (fun hHeld6 => ?_)
          · (try dsimp only); first | exact (Keep.refl [] _).drew | exact Keep.alloc (by assumption) _ | exact Keep.trans (by assumption) k9 (fun b hb => Or.inr (by simp at hb; subst hb; simp)) | exact Keep.trans (by assumption) k8 (fun b hb => Or.inr (by simp at hb; subst hb; simp))
          clear hK K
          try simp only [Act.put, List.setIfInBounds_toArray, List.set_cons_zero, List.set_cons_succ]
          refine wpAnyH_ready (rs := [9]) (by kernel_rfl) (by simp) ?_
          refine (AllReadyH.cons (o := ({ dst := none, op := Go.Op.store 39 (Go.Operand.tmp 13) (Go.Operand.tmp 40), type := 0, pos := "table.go:125", after := #[{ on := 7, ground := Go.Ground.data }, { on := 5, ground := Go.Ground.data }, { on := 8, ground := Go.Ground.chain }, { on := 0, ground := Go.Ground.phase }, { on := 1, ground := Go.Ground.phase }, { on := 2, ground := Go.Ground.phase }, { on := 3, ground := Go.Ground.phase }, { on := 4, ground := Go.Ground.phase }, { on := 5, ground := Go.Ground.phase }, { on := 6, ground := Go.Ground.phase }, { on := 7, ground := Go.Ground.phase }, { on := 8, ground := Go.Ground.phase }], guard := none } : Oper)) rfl (fun K hK => ?_) AllReadyH.nil)
          (refine step_storeB rfl (.tmp 13) (.tmp 40) rfl _ y Try.zeroCells39 rfl rfl (by refine Blk.keep ?_ k8 (by simp); first | exact (Blk.new _ _ 39).alloc _ | exact Blk.new' _ _ 39 (by simp)) rfl ?_; intro w9 hB9 k9; have hB12 := hB8.keep k9 (by simp))
          refine hK.out _ _ ?_ (fun hHeld7 => ?_)
          · (try dsimp only); first | exact (Keep.refl [] _).drew | exact Keep.alloc (by assumption) _ | exact Keep.trans (by assumption) k9 (fun b hb => Or.inr (by simp at hb; subst hb; simp)) | exact Keep.trans (by assumption) k8 (fun b hb => Or.inr (by simp at hb; subst hb; simp))
          clear hK K
          try simp only [Act.put, List.setIfInBounds_toArray, List.set_cons_zero, List.set_cons_succ]
          refine wpAnyH_done (by kernel_rfl) ?_ _
          refine NoPanic.normal ?_
          go_upto_region 12 with (first
            | (refine wpList_load_mid rfl 37 (.tmp 42) rfl _ 0 rfl (bs x.act) _ (rangeAt_act (rangeAt_of_blk hB12)) Try.underlying37 rfl (hi37 x.la) ?_)
            | (refine wpList_load_mid rfl 37 (.tmp 44) rfl _ 0 rfl (bs y.act) _ (rangeAt_act (rangeAt_of_blk hB9)) Try.underlying37 rfl (hi37 y.la) ?_)
            | (go_at_call 43; refine (below_any x.act y.act _ x.la y.la).mono ?_; rintro e w10 ⟨rfl, k10⟩; rw [D1.out])
            | fail)
          have hB12a := hB12.keep k10 (by simp)
          have hB9a := hB9.keep k10 (by simp)
          have js10 := (js.keep0 (by assumption : Keep [] wr w9)).keep0 k10
          go_upto_region 14 with (first
            | (refine wpList_load_mid rfl 37 (.tmp 54) rfl _ 0 rfl (bs y.act) _ (rangeAt_act (rangeAt_of_blk hB9a)) Try.underlying37 rfl (hi37 y.la) ?_)
            | (refine wpList_load_mid rfl 37 (.tmp 56) rfl _ 0 rfl (bs x.act) _ (rangeAt_act (rangeAt_of_blk hB12a)) Try.underlying37 rfl (hi37 x.la) ?_)
            | (go_at_call 43; refine (below_any y.act x.act _ y.la x.la).mono ?_; rintro e w11 ⟨rfl, k11⟩; rw [D2.out])
            | fail)
          have hB12b := hB12a.keep k11 (by simp)
          have hB9b := hB9a.keep k11 (by simp)
          have js11 := js10.keep0 k11
          go_upto_region 17 with (first
            | (refine wpList_load_mid rfl 39 (.tmp 12) rfl _ 0 rfl x.cells _ (rangeAt_of_blk hB12b) Try.underlying39 rfl (hi39 x) ?_)
            | (refine wpList_load_mid rfl 39 (.tmp 13) rfl _ 0 rfl y.cells _ (rangeAt_of_blk hB9b) Try.underlying39 rfl (hi39 y) ?_)
            | fail)
          have jsD := js11.keep0 ((Keep.refl [] _).drew)
          have hne : ∀ P, wr.heap.size ≤ P → P ∉ blks (.slice ao nO co) := fun P hP hb => by have := hvo P hb; omega
          refine wp_region_noPanic ?_
          refine wp_region_held_drew (S := fun W => Keep (blks (.slice ao nO co)) w11 W) (by kernel_rfl) ?_ (fun hHeld0 => ?_)
          · (try dsimp only); first | exact (Keep.refl _ _).drew | exact ((Keep.refl _ _).drew).alloc _ | exact (((Keep.refl _ _).drew).alloc _).trans hk6 (fun b hb => Or.inl hb)
          refine wpAnyH_take (i := 0) (oi := ({ dst := some 78, op := Go.Op.move (Go.Operand.tmp 10), type := 22, pos := "table.go:137", after := #[], guard := none } : Oper)) (v := ?_) rfl (by kernel_rfl) (by kernel_rfl) (by kernel_rfl) (fun _ _ _ h => h) (Or.inl ⟨by rfl, ?_⟩) (by assumption) ?_
          rotate_left
          · (intro w hSw; (try dsimp only at hSw); go_simp; try with_reducible rfl)
          try simp only [Act.put, List.setIfInBounds_toArray, List.set_cons_zero, List.set_cons_succ]
          refine wpAnyH_take (i := 1) (oi := ({ dst := some 79, op := Go.Op.load 39 (Go.Operand.tmp 12), type := 39, pos := "table.go:137", after := #[], guard := none } : Oper)) (v := .agg (List.toArray x.cells)) rfl (by kernel_rfl) (by kernel_rfl) (by kernel_rfl) (fun _ _ _ h => h) (yieldsIf_load_mid (by rfl) _ _ rfl _ _ rfl x.cells _ (fun w hSw => (rangeAt_of_blk (hB12b.keep hSw (hne _ (by omega))))) Try.underlying39 rfl (hi39 x)) (by assumption) ?_
          try simp only [Act.put, List.setIfInBounds_toArray, List.set_cons_zero, List.set_cons_succ]
          refine wpAnyH_take (i := 4) (oi := ({ dst := some 82, op := Go.Op.move (Go.Operand.tmp 0), type := 22, pos := "table.go:137", after := #[], guard := none } : Oper)) (v := ?_) rfl (by kernel_rfl) (by kernel_rfl) (by kernel_rfl) (fun _ _ _ h => h) (Or.inl ⟨by rfl, ?_⟩) (by assumption) ?_
          rotate_left
          · (intro w hSw; (try dsimp only at hSw); go_simp; try with_reducible rfl)
          try simp only [Act.put, List.setIfInBounds_toArray, List.set_cons_zero, List.set_cons_succ]
          refine wpAnyH_take (i := 5) (oi := ({ dst := some 83, op := Go.Op.slice 22 (Go.Operand.tmp 82) (some (Go.Operand.const (Go.Value.int Go.IntKind.i64 1))) none none, type := 22, pos := "table.go:137", after := #[{ on := 4, ground := Go.Ground.data }], guard := none } : Oper)) (v := ?_) rfl (by kernel_rfl) (by kernel_rfl) (by kernel_rfl) (fun _ _ _ h => h) (Or.inl ⟨by rfl, ?_⟩) (by assumption) ?_
          rotate_left
          · (intro w hSw; (try dsimp only at hSw); go_simp; try with_reducible rfl)
          try simp only [Act.put, List.setIfInBounds_toArray, List.set_cons_zero, List.set_cons_succ]
          refine wpAnyH_take (i := 6) (oi := ({ dst := some 84, op := Go.Op.move (Go.Operand.tmp 1), type := 22, pos := "table.go:137", after := #[], guard := none } : Oper)) (v := ?_) rfl (by kernel_rfl) (by kernel_rfl) (by kernel_rfl) (fun _ _ _ h => h) (Or.inl ⟨by rfl, ?_⟩) (by assumption) ?_
          rotate_left
          · (intro w hSw; (try dsimp only at hSw); go_simp; try with_reducible rfl)
          try simp only [Act.put, List.setIfInBounds_toArray, List.set_cons_zero, List.set_cons_succ]
          refine wpAnyH_take (i := 7) (oi := ({ dst := some 85, op := Go.Op.slice 22 (Go.Operand.tmp 84) (some (Go.Operand.const (Go.Value.int Go.IntKind.i64 1))) none none, type := 22, pos := "table.go:137", after := #[{ on := 6, ground := Go.Ground.data }], guard := none } : Oper)) (v := ?_) rfl (by kernel_rfl) (by kernel_rfl) (by kernel_rfl) (fun _ _ _ h => h) (Or.inl ⟨by rfl, ?_⟩) (by assumption) ?_
          rotate_left
          · (intro w hSw; (try dsimp only at hSw); go_simp; try with_reducible rfl)
          try simp only [Act.put, List.setIfInBounds_toArray, List.set_cons_zero, List.set_cons_succ]
          refine wpAnyH_ready (rs := [2]) (by kernel_rfl) (by simp) ?_
          refine (AllReadyH.cons (o := ({ dst := some 80, op := Go.Op.buildSlice 22 1 #[(0, Go.Operand.tmp 79)], type := 22, pos := "table.go:137", after := #[{ on := 1, ground := Go.Ground.data }], guard := none } : Oper)) rfl (fun K hK => ?_) AllReadyH.nil)
          (refine step_build1 rfl 22 39 (.tmp 79) rfl x.cells.toArray rfl (.agg Try.zeroCells39) 65 72 Try.underlying22 info39 (by simp [Res.len]) (by omega) (by omega) ?_)
          refine hK.out _ _ ?_ (fun hHeld1 => ?_)
          · (try dsimp only); first | exact (Keep.refl _ _).drew | exact ((Keep.refl _ _).drew).alloc _ | exact (((Keep.refl _ _).drew).alloc _).trans hk6 (fun b hb => Or.inl hb)
          clear hK K
          try simp only [Act.put, List.setIfInBounds_toArray, List.set_cons_zero, List.set_cons_succ]
          refine wpAnyH_ready (rs := [3]) (by kernel_rfl) (by simp) ?_
          refine (AllReadyH.cons (o := ({ dst := some 81, op := Go.Op.call { callee := Go.Callee.builtin Go.Builtin.append, args := #[Go.Operand.tmp 78, Go.Operand.tmp 80], argTypes := #[22, 22] }, type := 22, pos := "table.go:137", after := #[{ on := 0, ground := Go.Ground.data }, { on := 2, ground := Go.Ground.data }], guard := none } : Oper)) rfl (fun K hK => ?_) AllReadyH.nil)
          (refine step_appendN rfl (.tmp 78) (.tmp 80) 22 rfl 39 (.agg Try.zeroCells39) 65 72 Try.underlying22 info39 zero39 (by omega) (.slice ao nO co) nO (cellsOf O) rfl (after_build jsD.so).1 (some ⟨_, 0, none⟩) 1 1 x.cells rfl (res_len1 x) (by simp) (after_build jsD.so).2.1 (Res.one x) (by simp only [maxLen]; omega) (by omega) ?_; intro a6 c6 w6 hs6 hk6 hf6)
          refine hK.out _ _ ?_ (fun hHeld2 => ?_)
          · (try dsimp only); first | exact (Keep.refl _ _).drew | exact ((Keep.refl _ _).drew).alloc _ | exact (((Keep.refl _ _).drew).alloc _).trans hk6 (fun b hb => Or.inl hb)
          clear hK K
          try simp only [Act.put, List.setIfInBounds_toArray, List.set_cons_zero, List.set_cons_succ]
          refine wpAnyH_take (i := 8) (oi := ({ dst := some 10, op := Go.Op.assign (Go.Operand.tmp 81), type := 22, pos := "table.go:137", after := #[{ on := 3, ground := Go.Ground.data }, { on := 3, ground := Go.Ground.chain }, { on := 0, ground := Go.Ground.phase }, { on := 1, ground := Go.Ground.phase }, { on := 2, ground := Go.Ground.phase }, { on := 3, ground := Go.Ground.phase }, { on := 4, ground := Go.Ground.textOnly Go.Departure.lateStores }, { on := 5, ground := Go.Ground.textOnly Go.Departure.lateStoresUnsure }, { on := 6, ground := Go.Ground.textOnly Go.Departure.lateStores }, { on := 7, ground := Go.Ground.textOnly Go.Departure.lateStoresUnsure }], guard := none } : Oper)) (v := ?_) rfl (by kernel_rfl) (by kernel_rfl) (by kernel_rfl) (fun _ _ _ h => h) (Or.inl ⟨by rfl, ?_⟩) (by assumption) ?_
          rotate_left
          · (intro w hSw; (try dsimp only at hSw); go_simp; try with_reducible rfl)
          try simp only [Act.put, List.setIfInBounds_toArray, List.set_cons_zero, List.set_cons_succ]
          refine wpAnyH_take (i := 9) (oi := ({ dst := some 0, op := Go.Op.assign (Go.Operand.tmp 83), type := 22, pos := "table.go:137", after := #[{ on := 5, ground := Go.Ground.data }, { on := 8, ground := Go.Ground.chain }, { on := 0, ground := Go.Ground.phase }, { on := 1, ground := Go.Ground.phase }, { on := 2, ground := Go.Ground.phase }, { on := 3, ground := Go.Ground.phase }, { on := 4, ground := Go.Ground.phase }, { on := 5, ground := Go.Ground.phase }, { on := 6, ground := Go.Ground.textOnly Go.Departure.lateStores }, { on := 7, ground := Go.Ground.textOnly Go.Departure.lateStoresUnsure }, { on := 8, ground := Go.Ground.phase }], guard := none } : Oper)) (v := ?_) rfl (by kernel_rfl) (by kernel_rfl) (by kernel_rfl) (fun _ _ _ h => h) (Or.inl ⟨by rfl, ?_⟩) (by assumption) ?_
          rotate_left
          · (intro w hSw; (try dsimp only at hSw); go_simp; try with_reducible rfl)
          try simp only [Act.put, List.setIfInBounds_toArray, List.set_cons_zero, List.set_cons_succ]
          refine wpAnyH_take (i := 10) (oi := ({ dst := some 1, op := Go.Op.assign (Go.Operand.tmp 85), type := 22, pos := "table.go:137", after := #[{ on := 7, ground := Go.Ground.data }, { on := 9, ground := Go.Ground.chain }, { on := 0, ground := Go.Ground.phase }, { on := 1, ground := Go.Ground.phase }, { on := 2, ground := Go.Ground.phase }, { on := 3, ground := Go.Ground.phase }, { on := 4, ground := Go.Ground.phase }, { on := 5, ground := Go.Ground.phase }, { on := 6, ground := Go.Ground.phase }, { on := 7, ground := Go.Ground.phase }, { on := 8, ground := Go.Ground.phase }, { on := 9, ground := Go.Ground.phase }], guard := none } : Oper)) (v := ?_) rfl (by kernel_rfl) (by kernel_rfl) (by kernel_rfl) (fun _ _ _ h => h) (Or.inl ⟨by rfl, ?_⟩) (by assumption) ?_
          rotate_left
          · (intro w hSw; (try dsimp only at hSw); go_simp; try with_reducible rfl)
          try simp only [Act.put, List.setIfInBounds_toArray, List.set_cons_zero, List.set_cons_succ]
          refine wpAnyH_done (by kernel_rfl) ?_ _
          refine NoPanic.normal ?_
          have jsF := (jsD.keep0 (after_build jsD.so (x := x)).2.2).out (Z := [x]) rfl (by rw [cellsOf_one]; exact hs6) hk6 hf6; go_wp2_with fail; exact ⟨⟨_, _, _, _, _, _, _, _, _, _, _, _, _, _, _, _, rfl, rfl, rfl, rfl, HRS.out.2.2.1, HRS.out.2.2.2, jsF, by rw [← HJ.out.1, joinO_eq (nlt HD.out.1) (nlt HD.out.2), pick_same HXY.out, List.append_assoc]; rfl, by rw [← HJ.out.2, joinK_eq (nlt HD.out.1) (nlt HD.out.2), if_pos HXY.out]; rfl, by omega, by omega⟩, by simp [slLen]; omega⟩
      · have t1 : decide (x = y) = false := by simpa using hxy
        have HXY := Lib.hid hxy
        clear hxy
        go_upto_region 9 with fail
        refine wp_region_noPanic ?_
        refine wp_region_held_drew (S := fun W => Keep [] wr W) (by kernel_rfl) ?_ (fun hHeld0 => ?_)
        · (try dsimp only); first | exact (Keep.refl [] _).drew | exact Keep.alloc (by assumption) _ | exact Keep.trans (by assumption) k9 (fun b hb => Or.inr (by simp at hb; subst hb; simp)) | exact Keep.trans (by assumption) k8 (fun b hb => Or.inr (by simp at hb; subst hb; simp))
        refine wpAnyH_take (i := 0) (oi := ({ dst := some 35, op := Go.Op.move (Go.Operand.tmp 0), type := 22, pos := "table.go:125", after := #[], guard := none } : Oper)) (v := ?_) rfl (by kernel_rfl) (by kernel_rfl) (by kernel_rfl) (fun _ _ _ h => h) (Or.inl ⟨by rfl, ?_⟩) (by assumption) ?_
        rotate_left
        · (intro w hSw; (try dsimp only at hSw); go_simp; try with_reducible rfl)
        try simp only [Act.put, List.setIfInBounds_toArray, List.set_cons_zero, List.set_cons_succ]
        refine wpAnyH_take (i := 1) (oi := ({ dst := some 36, op := Go.Op.indexAddr 22 (Go.Operand.tmp 35) (Go.Operand.const (Go.Value.int Go.IntKind.i64 0)), type := 0, pos := "table.go:125", after := #[{ on := 0, ground := Go.Ground.data }], guard := none } : Oper)) (v := ?_) rfl (by kernel_rfl) (by kernel_rfl) (by kernel_rfl) (fun _ _ _ h => h) (Or.inl ⟨by rfl, ?_⟩) (by assumption) ?_
        rotate_left
        · (intro w hSw; (try dsimp only at hSw); go_simp; try with_reducible rfl)
        try simp only [Act.put, List.setIfInBounds_toArray, List.set_cons_zero, List.set_cons_succ]
        refine wpAnyH_take (i := 2) (oi := ({ dst := some 37, op := Go.Op.load 39 (Go.Operand.tmp 36), type := 39, pos := "table.go:125", after := #[{ on := 1, ground := Go.Ground.data }], guard := none } : Oper)) (v := .agg (List.toArray x.cells)) rfl (by kernel_rfl) (by kernel_rfl) (by kernel_rfl) (fun _ _ _ h => h) (yieldsIf_load_mid (by rfl) _ _ rfl _ _ rfl x.cells _ (fun w hSw => (rangeAt_keep rx hSw (by simp))) Try.underlying39 rfl (hi39 x)) (by assumption) ?_
        try simp only [Act.put, List.setIfInBounds_toArray, List.set_cons_zero, List.set_cons_succ]
        refine wpAnyH_take (i := 3) (oi := ({ dst := some 38, op := Go.Op.move (Go.Operand.tmp 1), type := 22, pos := "table.go:125", after := #[{ on := 8, ground := Go.Ground.gcOnly Go.Departure.lateStores }], guard := none } : Oper)) (v := ?_) rfl (by kernel_rfl) (by kernel_rfl) (by kernel_rfl) (fun _ _ _ h => h) (Or.inl ⟨by rfl, ?_⟩) (by assumption) ?_
        rotate_left
        · (intro w hSw; (try dsimp only at hSw); go_simp; try with_reducible rfl)
        try simp only [Act.put, List.setIfInBounds_toArray, List.set_cons_zero, List.set_cons_succ]
        refine wpAnyH_take (i := 4) (oi := ({ dst := some 39, op := Go.Op.indexAddr 22 (Go.Operand.tmp 38) (Go.Operand.const (Go.Value.int Go.IntKind.i64 0)), type := 0, pos := "table.go:125", after := #[{ on := 3, ground := Go.Ground.data }, { on := 8, ground := Go.Ground.gcOnly Go.Departure.lateStores }], guard := none } : Oper)) (v := ?_) rfl (by kernel_rfl) (by kernel_rfl) (by kernel_rfl) (fun _ _ _ h => h) (Or.inl ⟨by rfl, ?_⟩) (by assumption) ?_
        rotate_left
        · (intro w hSw; (try dsimp only at hSw); go_simp; try with_reducible rfl)
        try simp only [Act.put, List.setIfInBounds_toArray, List.set_cons_zero, List.set_cons_succ]
        refine wpAnyH_take (i := 5) (oi := ({ dst := some 40, op := Go.Op.load 39 (Go.Operand.tmp 39), type := 39, pos := "table.go:125", after := #[{ on := 4, ground := Go.Ground.data }, { on := 8, ground := Go.Ground.gcOnly Go.Departure.lateStores }], guard := none } : Oper)) (v := .agg (List.toArray y.cells)) rfl (by kernel_rfl) (by kernel_rfl) (by kernel_rfl) (fun _ _ _ h => h) (yieldsIf_load_mid (by rfl) _ _ rfl _ _ rfl y.cells _ (fun w hSw => (rangeAt_keep ry hSw (by simp))) Try.underlying39 rfl (hi39 y)) (by assumption) ?_
        try simp only [Act.put, List.setIfInBounds_toArray, List.set_cons_zero, List.set_cons_succ]
        refine wpAnyH_ready (rs := [6, 7]) (by kernel_rfl) (by simp) ?_
        refine (AllReadyH.cons (o := ({ dst := some 12, op := Go.Op.alloc 39, type := 0, pos := "table.go:125", after := #[], guard := none } : Oper)) rfl (fun K hK => ?_) (AllReadyH.cons (o := ({ dst := some 13, op := Go.Op.alloc 39, type := 0, pos := "table.go:125", after := #[], guard := none } : Oper)) rfl (fun K hK => ?_) AllReadyH.nil))
        · go_simp
          refine hK.out _ _ ?_ (fun hHeld1 => ?_)
          · (try dsimp only); first | exact (Keep.refl [] _).drew | exact Keep.alloc (by assumption) _ | exact Keep.trans (by assumption) k9 (fun b hb => Or.inr (by simp at hb; subst hb; simp)) | exact Keep.trans (by assumption) k8 (fun b hb => Or.inr (by simp at hb; subst hb; simp))
          clear hK K
          try simp only [Act.put, List.setIfInBounds_toArray, List.set_cons_zero, List.set_cons_succ]
          refine wpAnyH_ready (rs := [7]) (by kernel_rfl) (by simp) ?_
          refine (AllReadyH.cons (o := ({ dst := some 13, op := Go.Op.alloc 39, type := 0, pos := "table.go:125", after := #[], guard := none } : Oper)) rfl (fun K hK => ?_) AllReadyH.nil)
          go_simp
          refine hK.out _ _ ?_ (fun hHeld2 => ?_)
          · (try dsimp only); first | exact (Keep.refl [] _).drew | exact Keep.alloc (by assumption) _ | exact Keep.trans (by assumption) k9 (fun b hb => Or.inr (by simp at hb; subst hb; simp)) | exact Keep.trans (by assumption) k8 (fun b hb => Or.inr (by simp at hb; subst hb; simp))
          clear hK K
          try simp only [Act.put, List.setIfInBounds_toArray, List.set_cons_zero, List.set_cons_succ]
          refine wpAnyH_ready (rs := [8]) (by kernel_rfl) (by simp) ?_
          refine (AllReadyH.cons (o := ({ dst := none, op := Go.Op.store 39 (Go.Operand.tmp 12) (Go.Operand.tmp 37), type := 0, pos := "table.go:125", after := #[{ on := 6, ground := Go.Ground.data }, { on := 2, ground := Go.Ground.data }, { on := 0, ground := Go.Ground.phase }, { on := 1, ground := Go.Ground.phase }, { on := 2, ground := Go.Ground.phase }, { on := 3, ground := Go.Ground.textOnly Go.Departure.lateStores }, { on := 4, ground := Go.Ground.textOnly Go.Departure.lateStores }, { on := 5, ground := Go.Ground.textOnly Go.Departure.lateStores }, { on := 6, ground := Go.Ground.phase }, { on := 7, ground := Go.Ground.phase }], guard := none } : Oper)) rfl (fun K hK => ?_) AllReadyH.nil)
          (refine step_storeB rfl (.tmp 12) (.tmp 37) rfl _ x Try.zeroCells39 rfl rfl (by first | exact (Blk.new _ _ 39).alloc _ | exact Blk.new' _ _ 39 (by simp)) rfl ?_; intro w8 hB8 k8)
          refine hK.out _ _ ?_ (fun hHeld3 => ?_)
          · (try dsimp only); first | exact (Keep.refl [] _).drew | exact Keep.alloc (by assumption) _ | exact Keep.trans (by assumption) k9 (fun b hb => Or.inr (by simp at hb; subst hb; simp)) | exact Keep.trans (by assumption) k8 (fun b hb => Or.inr (by simp at hb; subst hb; simp))
          clear hK K
          try simp only [Act.put, List.setIfInBounds_toArray, List.set_cons_zero, List.set_cons_succ]
          refine wpAnyH_ready (rs := [9]) (by kernel_rfl) (by simp) ?_
          refine (AllReadyH.cons (o := ({ dst := none, op := Go.Op.store 39 (Go.Operand.tmp 13) (Go.Operand.tmp 40), type := 0, pos := "table.go:125", after := #[{ on := 7, ground := Go.Ground.data }, { on := 5, ground := Go.Ground.data }, { on := 8, ground := Go.Ground.chain }, { on := 0, ground := Go.Ground.phase }, { on := 1, ground := Go.Ground.phase }, { on := 2, ground := Go.Ground.phase }, { on := 3, ground := Go.Ground.phase }, { on := 4, ground := Go.Ground.phase }, { on := 5, ground := Go.Ground.phase }, { on := 6, ground := Go.Ground.phase }, { on := 7, ground := Go.Ground.phase }, { on := 8, ground := Go.Ground.phase }], guard := none } : Oper)) rfl (fun K hK => ?_) AllReadyH.nil)
          (refine step_storeB rfl (.tmp 13) (.tmp 40) rfl _ y Try.zeroCells39 rfl rfl (by refine Blk.keep ?_ k8 (by simp); first | exact (Blk.new _ _ 39).alloc _ | exact Blk.new' _ _ 39 (by simp)) rfl ?_; intro w9 hB9 k9; have hB12 := hB8.keep k9 (by simp))
          refine hK.out _ _ ?_ (fun hHeld4 => ?_)
          · (try dsimp only); first | exact (Keep.refl [] _).drew | exact Keep.alloc (by assumption) _ | exact Keep.trans (by assumption) k9 (fun b hb => Or.inr (by simp at hb; subst hb; simp)) | exact Keep.trans (by assumption) k8 (fun b hb => Or.inr (by simp at hb; subst hb; simp))
          clear hK K
          try simp only [Act.put, List.setIfInBounds_toArray, List.set_cons_zero, List.set_cons_succ]
          refine wpAnyH_done (by kernel_rfl) ?_ _
          refine NoPanic.normal ?_
          go_upto_region 12 with (first
            | (refine wpList_load_mid rfl 37 (.tmp 42) rfl _ 0 rfl (bs x.act) _ (rangeAt_act (rangeAt_of_blk hB12)) Try.underlying37 rfl (hi37 x.la) ?_)
            | (refine wpList_load_mid rfl 37 (.tmp 44) rfl _ 0 rfl (bs y.act) _ (rangeAt_act (rangeAt_of_blk hB9)) Try.underlying37 rfl (hi37 y.la) ?_)
            | (go_at_call 43; refine (below_any x.act y.act _ x.la y.la).mono ?_; rintro e w10 ⟨rfl, k10⟩; rw [D1.out])
            | fail)
          have hB12a := hB12.keep k10 (by simp)
          have hB9a := hB9.keep k10 (by simp)
          have js10 := (js.keep0 (by assumption : Keep [] wr w9)).keep0 k10
          go_upto_region 14 with (first
            | (refine wpList_load_mid rfl 37 (.tmp 54) rfl _ 0 rfl (bs y.act) _ (rangeAt_act (rangeAt_of_blk hB9a)) Try.underlying37 rfl (hi37 y.la) ?_)
            | (refine wpList_load_mid rfl 37 (.tmp 56) rfl _ 0 rfl (bs x.act) _ (rangeAt_act (rangeAt_of_blk hB12a)) Try.underlying37 rfl (hi37 x.la) ?_)
            | (go_at_call 43; refine (below_any y.act x.act _ y.la x.la).mono ?_; rintro e w11 ⟨rfl, k11⟩; rw [D2.out])
            | fail)
          have hB12b := hB12a.keep k11 (by simp)
          have hB9b := hB9a.keep k11 (by simp)
          have js11 := js10.keep0 k11
          have hne : ∀ P, wr.heap.size ≤ P → P ∉ blks (.slice ao nO co) := fun P hP hb => by have := hvo P hb; omega
          have hneK : ∀ P, wr.heap.size ≤ P → P ∉ blks (.slice ak nK ck) := fun P hP hb => by have := hvk P hb; omega
          go_upto_region 16 with (first
            | (refine wpList_load_mid rfl 39 (.tmp 12) rfl _ 0 rfl x.cells _ (rangeAt_of_blk hB12b) Try.underlying39 rfl (hi39 x) ?_)
            | (refine wpList_load_mid rfl 39 (.tmp 13) rfl _ 0 rfl y.cells _ (rangeAt_of_blk hB9b) Try.underlying39 rfl (hi39 y) ?_)
            | (refine wpList_load_mid rfl 37 (.tmp 70) rfl _ 0 rfl (bs x.act) _ (rangeAt_act (rangeAt_of_blk hB12b)) Try.underlying37 rfl (hi37 x.la) ?_)
            | (refine wpList_build1 rfl 45 37 (.tmp 71) rfl (bs x.act).toArray rfl _ 32 32 under45 info37 (by simp [bs_length, x.la]) (by omega) (by omega) ?_)
            | (at_builtin; refine wpList_appendN rfl (.tmp 69) (.tmp 72) 45 rfl 37 _ 32 32 under45 info37 zero37 (by omega) (.slice ak nK ck) nK (idCells K) rfl (after_alloc js11.sk).1 (some ⟨_, 0, none⟩) 1 1 (bs x.act) rfl (by rw [bs_length, x.la]) (by simp) (after_alloc js11.sk).2.1 (bs_one x.act) (by simp only [maxLen]; omega) (by omega) ?_; intro a7 c7 w12 hs7 hk7 hf7)
            | fail)
          have js12 := (js11.keep0 (after_alloc js11.sk (cs := bs x.act) (t := 37)).2.2).clash hs7 hk7 hf7
          have hB12c := (hB12b.keep (after_alloc js11.sk (cs := bs x.act) (t := 37)).2.2 (by simp)).keep hk7 (hneK _ (by omega))
          have hB9c := (hB9b.keep (after_alloc js11.sk (cs := bs x.act) (t := 37)).2.2 (by simp)).keep hk7 (hneK _ (by omega))
          have hl12 := hB12b.lt
          have hneK2 : ∀ P, wr.heap.size ≤ P → P < w11.heap.size → P ∉ blks (.slice a7 (nK + 1) c7) := fun P hP hQ hb => by rcases hf7 P hb with h | h; exact hneK P hP h; have := (after_alloc js11.sk (cs := bs x.act) (t := 37)).2.2.size; omega
          go_wp2_with (first
            | (refine wpList_load_mid rfl 39 (.tmp 12) rfl _ 0 rfl x.cells _ (rangeAt_of_blk hB12c) Try.underlying39 rfl (hi39 x) ?_)
            | (refine wpList_load_mid rfl 39 (.tmp 13) rfl _ 0 rfl y.cells _ (rangeAt_of_blk hB9c) Try.underlying39 rfl (hi39 y) ?_)
            | fail)
          refine (HFC.out x y _).mono ?_
          rintro e w13 ⟨rfl, k13⟩
          have hB12d := hB12c.keep k13 (by simp)
          go_upto_region 17 with (first
            | (refine wpList_storeB rfl (.tmp 12) (.tmp 77) rfl _ (pickR how x y) x.cells.toArray rfl rfl hB12d (by simp [x.len]) ?_; intro w14 hB14 k14)
            | fail)
          have js14 := (js12.keep0 k13).keep k14 (fun b hb => by simp only [List.mem_singleton]; rintro rfl; exact hne _ (by omega) hb) (fun b hb => by simp only [List.mem_singleton]; rintro rfl; exact hneK2 _ (by omega) hl12 hb) (fun b hb => by have := js.k.size; simp only [List.mem_singleton] at hb; omega)
          have jsD := js14.keep0 ((Keep.refl [] _).drew)
          refine wp_region_noPanic ?_
          refine wp_region_held_drew (S := fun W => Keep (blks (.slice ao nO co)) w14 W) (by kernel_rfl) ?_ (fun hHeld0 => ?_)
          · (try dsimp only); first | exact (Keep.refl _ _).drew | exact ((Keep.refl _ _).drew).alloc _ | exact (((Keep.refl _ _).drew).alloc _).trans hk6 (fun b hb => Or.inl hb)
          refine wpAnyH_take (i := 0) (oi := ({ dst := some 78, op := Go.Op.move (Go.Operand.tmp 10), type := 22, pos := "table.go:137", after := #[], guard := none } : Oper)) (v := ?_) rfl (by kernel_rfl) (by kernel_rfl) (by kernel_rfl) (fun _ _ _ h => h) (Or.inl ⟨by rfl, ?_⟩) (by assumption) ?_
          rotate_left
          · (intro w hSw; (try dsimp only at hSw); go_simp; try with_reducible rfl)
          try simp only [Act.put, List.setIfInBounds_toArray, List.set_cons_zero, List.set_cons_succ]
          refine wpAnyH_take (i := 1) (oi := ({ dst := some 79, op := Go.Op.load 39 (Go.Operand.tmp 12), type := 39, pos := "table.go:137", after := #[], guard := none } : Oper)) (v := .agg (List.toArray (pickR how x y).cells)) rfl (by kernel_rfl) (by kernel_rfl) (by kernel_rfl) (fun _ _ _ h => h) (yieldsIf_load_mid (by rfl) _ _ rfl _ _ rfl (pickR how x y).cells _ (fun w hSw => (rangeAt_of_blk (hB14.keep hSw (hne _ (by omega))))) Try.underlying39 rfl (hi39 (pickR how x y))) (by assumption) ?_
          try simp only [Act.put, List.setIfInBounds_toArray, List.set_cons_zero, List.set_cons_succ]
          refine wpAnyH_take (i := 4) (oi := ({ dst := some 82, op := Go.Op.move (Go.Operand.tmp 0), type := 22, pos := "table.go:137", after := #[], guard := none } : Oper)) (v := ?_) rfl (by kernel_rfl) (by kernel_rfl) (by kernel_rfl) (fun _ _ _ h => h) (Or.inl ⟨by rfl, ?_⟩) (by assumption) ?_
          rotate_left
          · (intro w hSw; (try dsimp only at hSw); go_simp; try with_reducible rfl)
          try simp only [Act.put, List.setIfInBounds_toArray, List.set_cons_zero, List.set_cons_succ]
          refine wpAnyH_take (i := 5) (oi := ({ dst := some 83, op := Go.Op.slice 22 (Go.Operand.tmp 82) (some (Go.Operand.const (Go.Value.int Go.IntKind.i64 1))) none none, type := 22, pos := "table.go:137", after := #[{ on := 4, ground := Go.Ground.data }], guard := none } : Oper)) (v := ?_) rfl (by kernel_rfl) (by kernel_rfl) (by kernel_rfl) (fun _ _ _ h => h) (Or.inl ⟨by rfl, ?_⟩) (by assumption) ?_
          rotate_left
          · (intro w hSw; (try dsimp only at hSw); go_simp; try with_reducible rfl)
          try simp only [Act.put, List.setIfInBounds_toArray, List.set_cons_zero, List.set_cons_succ]
          refine wpAnyH_take (i := 6) (oi := ({ dst := some 84, op := Go.Op.move (Go.Operand.tmp 1), type := 22, pos := "table.go:137", after := #[], guard := none } : Oper)) (v := ?_) rfl (by kernel_rfl) (by kernel_rfl) (by kernel_rfl) (fun _ _ _ h => h) (Or.inl ⟨by rfl, ?_⟩) (by assumption) ?_
          rotate_left
          · (intro w hSw; (try dsimp only at hSw); go_simp; try with_reducible rfl)
          try simp only [Act.put, List.setIfInBounds_toArray, List.set_cons_zero, List.set_cons_succ]
          refine wpAnyH_take (i := 7) (oi := ({ dst := some 85, op := Go.Op.slice 22 (Go.Operand.tmp 84) (some (Go.Operand.const (Go.Value.int Go.IntKind.i64 1))) none none, type := 22, pos := "table.go:137", after := #[{ on := 6, ground := Go.Ground.data }], guard := none } : Oper)) (v := ?_) rfl (by kernel_rfl) (by kernel_rfl) (by kernel_rfl) (fun _ _ _ h => h) (Or.inl ⟨by rfl, ?_⟩) (by assumption) ?_
          rotate_left
          · (intro w hSw; (try dsimp only at hSw); go_simp; try with_reducible rfl)
          try simp only [Act.put, List.setIfInBounds_toArray, List.set_cons_zero, List.set_cons_succ]
          refine wpAnyH_ready (rs := [2]) (by kernel_rfl) (by simp) ?_
          refine (AllReadyH.cons (o := ({ dst := some 80, op := Go.Op.buildSlice 22 1 #[(0, Go.Operand.tmp 79)], type := 22, pos := "table.go:137", after := #[{ on := 1, ground := Go.Ground.data }], guard := none } : Oper)) rfl (fun K hK => ?_) AllReadyH.nil)
          (refine step_build1 rfl 22 39 (.tmp 79) rfl (pickR how x y).cells.toArray rfl (.agg Try.zeroCells39) 65 72 Try.underlying22 info39 (by simp [Res.len]) (by omega) (by omega) ?_)
          refine hK.out _ _ ?_ (fun hHeld1 => ?_)
          · (try dsimp only); first | exact (Keep.refl _ _).drew | exact ((Keep.refl _ _).drew).alloc _ | exact (((Keep.refl _ _).drew).alloc _).trans hk6 (fun b hb => Or.inl hb)
          clear hK K
          try simp only [Act.put, List.setIfInBounds_toArray, List.set_cons_zero, List.set_cons_succ]
          refine wpAnyH_ready (rs := [3]) (by kernel_rfl) (by simp) ?_
          refine (AllReadyH.cons (o := ({ dst := some 81, op := Go.Op.call { callee := Go.Callee.builtin Go.Builtin.append, args := #[Go.Operand.tmp 78, Go.Operand.tmp 80], argTypes := #[22, 22] }, type := 22, pos := "table.go:137", after := #[{ on := 0, ground := Go.Ground.data }, { on := 2, ground := Go.Ground.data }], guard := none } : Oper)) rfl (fun K hK => ?_) AllReadyH.nil)
          (refine step_appendN rfl (.tmp 78) (.tmp 80) 22 rfl 39 (.agg Try.zeroCells39) 65 72 Try.underlying22 info39 zero39 (by omega) (.slice ao nO co) nO (cellsOf O) rfl (after_build jsD.so).1 (some ⟨_, 0, none⟩) 1 1 (pickR how x y).cells rfl (res_len1 (pickR how x y)) (by simp) (after_build jsD.so).2.1 (Res.one (pickR how x y)) (by simp only [maxLen]; omega) (by omega) ?_; intro a6 c6 w6 hs6 hk6 hf6)
          refine hK.out _ _ ?_ (fun hHeld2 => ?_)
          · (try dsimp only); first | exact (Keep.refl _ _).drew | exact ((Keep.refl _ _).drew).alloc _ | exact (((Keep.refl _ _).drew).alloc _).trans hk6 (fun b hb => Or.inl hb)
          clear hK K
          try simp only [Act.put, List.setIfInBounds_toArray, List.set_cons_zero, List.set_cons_succ]
          refine wpAnyH_take (i := 8) (oi := ({ dst := some 10, op := Go.Op.assign (Go.Operand.tmp 81), type := 22, pos := "table.go:137", after := #[{ on := 3, ground := Go.Ground.data }, { on := 3, ground := Go.Ground.chain }, { on := 0, ground := Go.Ground.phase }, { on := 1, ground := Go.Ground.phase }, { on := 2, ground := Go.Ground.phase }, { on := 3, ground := Go.Ground.phase }, { on := 4, ground := Go.Ground.textOnly Go.Departure.lateStores }, { on := 5, ground := Go.Ground.textOnly Go.Departure.lateStoresUnsure }, { on := 6, ground := Go.Ground.textOnly Go.Departure.lateStores }, { on := 7, ground := Go.Ground.textOnly Go.Departure.lateStoresUnsure }], guard := none } : Oper)) (v := ?_) rfl (by kernel_rfl) (by kernel_rfl) (by kernel_rfl) (fun _ _ _ h => h) (Or.inl ⟨by rfl, ?_⟩) (by assumption) ?_
          rotate_left
          · (intro w hSw; (try dsimp only at hSw); go_simp; try with_reducible rfl)
          try simp only [Act.put, List.setIfInBounds_toArray, List.set_cons_zero, List.set_cons_succ]
          refine wpAnyH_take (i := 9) (oi := ({ dst := some 0, op := Go.Op.assign (Go.Operand.tmp 83), type := 22, pos := "table.go:137", after := #[{ on := 5, ground := Go.Ground.data }, { on := 8, ground := Go.Ground.chain }, { on := 0, ground := Go.Ground.phase }, { on := 1, ground := Go.Ground.phase }, { on := 2, ground := Go.Ground.phase }, { on := 3, ground := Go.Ground.phase }, { on := 4, ground := Go.Ground.phase }, { on := 5, ground := Go.Ground.phase }, { on := 6, ground := Go.Ground.textOnly Go.Departure.lateStores }, { on := 7, ground := Go.Ground.textOnly Go.Departure.lateStoresUnsure }, { on := 8, ground := Go.Ground.phase }], guard := none } : Oper)) (v := ?_) rfl (by kernel_rfl) (by kernel_rfl) (by kernel_rfl) (fun _ _ _ h => h) (Or.inl ⟨by rfl, ?_⟩) (by assumption) ?_
          rotate_left
          · (intro w hSw; (try dsimp only at hSw); go_simp; try with_reducible rfl)
          try simp only [Act.put, List.setIfInBounds_toArray, List.set_cons_zero, List.set_cons_succ]
          refine wpAnyH_take (i := 10) (oi := ({ dst := some 1, op := Go.Op.assign (Go.Operand.tmp 85), type := 22, pos := "table.go:137", after := #[{ on := 7, ground := Go.Ground.data }, { on := 9, ground := Go.Ground.chain }, { on := 0, ground := Go.Ground.phase }, { on := 1, ground := Go.Ground.phase }, { on := 2, ground := Go.Ground.phase }, { on := 3, ground := Go.Ground.phase }, { on := 4, ground := Go.Ground.phase }, { on := 5, ground := Go.Ground.phase }, { on := 6, ground := Go.Ground.phase }, { on := 7, ground := Go.Ground.phase }, { on := 8, ground := Go.Ground.phase }, { on := 9, ground := Go.Ground.phase }], guard := none } : Oper)) (v := ?_) rfl (by kernel_rfl) (by kernel_rfl) (by kernel_rfl) (fun _ _ _ h => h) (Or.inl ⟨by rfl, ?_⟩) (by assumption) ?_
          rotate_left
          · (intro w hSw; (try dsimp only at hSw); go_simp; try with_reducible rfl)
          try simp only [Act.put, List.setIfInBounds_toArray, List.set_cons_zero, List.set_cons_succ]
          refine wpAnyH_done (by kernel_rfl) ?_ _
          refine NoPanic.normal ?_
          have jsF := (jsD.keep0 (after_build jsD.so (x := (pickR how x y))).2.2).out (Z := [pickR how x y]) rfl (by rw [cellsOf_one]; exact hs6) hk6 hf6; go_wp2_with fail; exact ⟨⟨_, _, _, _, _, _, _, _, _, _, _, _, _, _, _, _, rfl, rfl, rfl, rfl, HRS.out.2.2.1, HRS.out.2.2.2, jsF, by rw [← HJ.out.1, joinO_eq (nlt HD.out.1) (nlt HD.out.2), List.append_assoc]; rfl, by rw [← HJ.out.2, joinK_eq (nlt HD.out.1) (nlt HD.out.2), if_neg HXY.out, List.append_assoc], by omega, by omega⟩, by simp [slLen]; omega⟩
        · go_simp
          refine hK.out _ _ ?_ (fun hHeld4 => ?_)
          · (try dsimp only); first | exact (Keep.refl [] _).drew | exact Keep.alloc (by assumption) _ | exact Keep.trans (by assumption) k9 (fun b hb => Or.inr (by simp at hb; subst hb; simp)) | exact Keep.trans (by assumption) k8 (fun b hb => Or.inr (by simp at hb; subst hb; simp))
          clear hK K
          try simp only [Act.put, List.setIfInBounds_toArray, List.set_cons_zero, List.set_cons_succ]
          refine wpAnyH_ready (rs := [6]) (by kernel_rfl) (by simp) ?_
          refine (AllReadyH.cons (o := ({ dst := some 12, op := Go.Op.alloc 39, type := 0, pos := "table.go:125", after := #[], guard := none } : Oper)) rfl (fun K hK => ?_) AllReadyH.nil)
          go_simp
          refine hK.out _ _ ?_ (fun hHeld5 => ?_)
          · (try dsimp only); first | exact (Keep.refl [] _).drew | exact Keep.alloc (by assumption) _ | exact Keep.trans (by assumption) k9 (fun b hb => Or.inr (by simp at hb; subst hb; simp)) | exact Keep.trans (by assumption) k8 (fun b hb => Or.inr (by simp at hb; subst hb; simp))
          clear hK K
          try simp only [Act.put, List.setIfInBounds_toArray, List.set_cons_zero, List.set_cons_succ]
          refine wpAnyH_ready (rs := [8]) (by kernel_rfl) (by simp) ?_
          refine (AllReadyH.cons (o := ({ dst := none, op := Go.Op.store 39 (Go.Operand.tmp 12) (Go.Operand.tmp 37), type := 0, pos := "table.go:125", after := #[{ on := 6, ground := Go.Ground.data }, { on := 2, ground := Go.Ground.data }, { on := 0, ground := Go.Ground.phase }, { on := 1, ground := Go.Ground.phase }, { on := 2, ground := Go.Ground.phase }, { on := 3, ground := Go.Ground.textOnly Go.Departure.lateStores }, { on := 4, ground := Go.Ground.textOnly Go.Departure.lateStores }, { on := 5, ground := Go.Ground.textOnly Go.Departure.lateStores }, { on := 6, ground := Go.Ground.phase }, { on := 7, ground := Go.Ground.phase }], guard := none } : Oper)) rfl (fun K hK => ?_) AllReadyH.nil)
          (refine step_storeB rfl (.tmp 12) (.tmp 37) rfl _ x Try.zeroCells39 rfl rfl (by first | exact (Blk.new _ _ 39).alloc _ | exact Blk.new' _ _ 39 (by simp)) rfl ?_; intro w8 hB8 k8)
          refine hK.out _ _ ?_ (fun hHeld6 => ?_)
          · (try dsimp only); first | exact (Keep.refl [] _).drew | exact Keep.alloc (by assumption) _ | exact Keep.trans (by assumption) k9 (fun b hb => Or.inr (by simp at hb; subst hb; simp)) | exact Keep.trans (by assumption) k8 (fun b hb => Or.inr (by simp at hb; subst hb; simp))
          clear hK K
          try simp only [Act.put, List.setIfInBounds_toArray, List.set_cons_zero, List.set_cons_succ]
          refine wpAnyH_ready (rs := [9]) (by kernel_rfl) (by simp) ?_
          refine (AllReadyH.cons (o := ({ dst := none, op := Go.Op.store 39 (Go.Operand.tmp 13) (Go.Operand.tmp 40), type := 0, pos := "table.go:125", after := #[{ on := 7, ground := Go.Ground.data }, { on := 5, ground := Go.Ground.data }, { on := 8, ground := Go.Ground.chain }, { on := 0, ground := Go.Ground.phase }, { on := 1, ground := Go.Ground.phase }, { on := 2, ground := Go.Ground.phase }, { on := 3, ground := Go.Ground.phase }, { on := 4, ground := Go.Ground.phase }, { on := 5, ground := Go.Ground.phase }, { on := 6, ground := Go.Ground.phase }, { on := 7, ground := Go.Ground.phase }, { on := 8, ground := Go.Ground.phase }], guard := none } : Oper)) rfl (fun K hK => ?_) AllReadyH.nil)
          (refine step_storeB rfl (.tmp 13) (.tmp 40) rfl _ y Try.zeroCells39 rfl rfl (by refine Blk.keep ?_ k8 (by simp); first | exact (Blk.new _ _ 39).alloc _ | exact Blk.new' _ _ 39 (by simp)) rfl ?_; intro w9 hB9 k9; have hB12 := hB8.keep k9 (by simp))
          refine hK.out _ _ ?_ (fun hHeld7 => ?_)
          · (try dsimp only); first | exact (Keep.refl [] _).drew | exact Keep.alloc (by assumption) _ | exact Keep.trans (by assumption) k9 (fun b hb => Or.inr (by simp at hb; subst hb; simp)) | exact Keep.trans (by assumption) k8 (fun b hb => Or.inr (by simp at hb; subst hb; simp))
          clear hK K
          try simp only [Act.put, List.setIfInBounds_toArray, List.set_cons_zero, List.set_cons_succ]
          refine wpAnyH_done (by kernel_rfl) ?_ _
          refine NoPanic.normal ?_
          go_upto_region 12 with (first
            | (refine wpList_load_mid rfl 37 (.tmp 42) rfl _ 0 rfl (bs x.act) _ (rangeAt_act (rangeAt_of_blk hB12)) Try.underlying37 rfl (hi37 x.la) ?_)
            | (refine wpList_load_mid rfl 37 (.tmp 44) rfl _ 0 rfl (bs y.act) _ (rangeAt_act (rangeAt_of_blk hB9)) Try.underlying37 rfl (hi37 y.la) ?_)
            | (go_at_call 43; refine (below_any x.act y.act _ x.la y.la).mono ?_; rintro e w10 ⟨rfl, k10⟩; rw [D1.out])
            | fail)
          have hB12a := hB12.keep k10 (by simp)
          have hB9a := hB9.keep k10 (by simp)
          have js10 := (js.keep0 (by assumption : Keep [] wr w9)).keep0 k10
          go_upto_region 14 with (first
            | (refine wpList_load_mid rfl 37 (.tmp 54) rfl _ 0 rfl (bs y.act) _ (rangeAt_act (rangeAt_of_blk hB9a)) Try.underlying37 rfl (hi37 y.la) ?_)
            | (refine wpList_load_mid rfl 37 (.tmp 56) rfl _ 0 rfl (bs x.act) _ (rangeAt_act (rangeAt_of_blk hB12a)) Try.underlying37 rfl (hi37 x.la) ?_)
            | (go_at_call 43; refine (below_any y.act x.act _ y.la x.la).mono ?_; rintro e w11 ⟨rfl, k11⟩; rw [D2.out])
            | fail)
          have hB12b := hB12a.keep k11 (by simp)
          have hB9b := hB9a.keep k11 (by simp)
          have js11 := js10.keep0 k11
          have hne : ∀ P, wr.heap.size ≤ P → P ∉ blks (.slice ao nO co) := fun P hP hb => by have := hvo P hb; omega
          have hneK : ∀ P, wr.heap.size ≤ P → P ∉ blks (.slice ak nK ck) := fun P hP hb => by have := hvk P hb; omega
          go_upto_region 16 with (first
            | (refine wpList_load_mid rfl 39 (.tmp 12) rfl _ 0 rfl x.cells _ (rangeAt_of_blk hB12b) Try.underlying39 rfl (hi39 x) ?_)
            | (refine wpList_load_mid rfl 39 (.tmp 13) rfl _ 0 rfl y.cells _ (rangeAt_of_blk hB9b) Try.underlying39 rfl (hi39 y) ?_)
            | (refine wpList_load_mid rfl 37 (.tmp 70) rfl _ 0 rfl (bs x.act) _ (rangeAt_act (rangeAt_of_blk hB12b)) Try.underlying37 rfl (hi37 x.la) ?_)
            | (refine wpList_build1 rfl 45 37 (.tmp 71) rfl (bs x.act).toArray rfl _ 32 32 under45 info37 (by simp [bs_length, x.la]) (by omega) (by omega) ?_)
            | (at_builtin; refine wpList_appendN rfl (.tmp 69) (.tmp 72) 45 rfl 37 _ 32 32 under45 info37 zero37 (by omega) (.slice ak nK ck) nK (idCells K) rfl (after_alloc js11.sk).1 (some ⟨_, 0, none⟩) 1 1 (bs x.act) rfl (by rw [bs_length, x.la]) (by simp) (after_alloc js11.sk).2.1 (bs_one x.act) (by simp only [maxLen]; omega) (by omega) ?_; intro a7 c7 w12 hs7 hk7 hf7)
            | fail)
          have js12 := (js11.keep0 (after_alloc js11.sk (cs := bs x.act) (t := 37)).2.2).clash hs7 hk7 hf7
          have hB12c := (hB12b.keep (after_alloc js11.sk (cs := bs x.act) (t := 37)).2.2 (by simp)).keep hk7 (hneK _ (by omega))
          have hB9c := (hB9b.keep (after_alloc js11.sk (cs := bs x.act) (t := 37)).2.2 (by simp)).keep hk7 (hneK _ (by omega))
          have hl12 := hB12b.lt
          have hneK2 : ∀ P, wr.heap.size ≤ P → P < w11.heap.size → P ∉ blks (.slice a7 (nK + 1) c7) := fun P hP hQ hb => by rcases hf7 P hb with h | h; exact hneK P hP h; have := (after_alloc js11.sk (cs := bs x.act) (t := 37)).2.2.size; omega
          go_wp2_with (first
            | (refine wpList_load_mid rfl 39 (.tmp 12) rfl _ 0 rfl x.cells _ (rangeAt_of_blk hB12c) Try.underlying39 rfl (hi39 x) ?_)
            | (refine wpList_load_mid rfl 39 (.tmp 13) rfl _ 0 rfl y.cells _ (rangeAt_of_blk hB9c) Try.underlying39 rfl (hi39 y) ?_)
            | fail)
          refine (HFC.out x y _).mono ?_
          rintro e w13 ⟨rfl, k13⟩
          have hB12d := hB12c.keep k13 (by simp)
          go_upto_region 17 with (first
            | (refine wpList_storeB rfl (.tmp 12) (.tmp 77) rfl _ (pickR how x y) x.cells.toArray rfl rfl hB12d (by simp [x.len]) ?_; intro w14 hB14 k14)
            | fail)
          have js14 := (js12.keep0 k13).keep k14 (fun b hb => by simp only [List.mem_singleton]; rintro rfl; exact hne _ (by omega) hb) (fun b hb => by simp only [List.mem_singleton]; rintro rfl; exact hneK2 _ (by omega) hl12 hb) (fun b hb => by have := js.k.size; simp only [List.mem_singleton] at hb; omega)
          have jsD := js14.keep0 ((Keep.refl [] _).drew)
          refine wp_region_noPanic ?_
          refine wp_region_held_drew (S := fun W => Keep (blks (.slice ao nO co)) w14 W) (by kernel_rfl) ?_ (fun hHeld0 => ?_)
          · (try dsimp only); first | exact (Keep.refl _ _).drew | exact ((Keep.refl _ _).drew).alloc _ | exact (((Keep.refl _ _).drew).alloc _).trans hk6 (fun b hb => Or.inl hb)
          refine wpAnyH_take (i := 0) (oi := ({ dst := some 78, op := Go.Op.move (Go.Operand.tmp 10), type := 22, pos := "table.go:137", after := #[], guard := none } : Oper)) (v := ?_) rfl (by kernel_rfl) (by kernel_rfl) (by kernel_rfl) (fun _ _ _ h => h) (Or.inl ⟨by rfl, ?_⟩) (by assumption) ?_
          rotate_left
          · (intro w hSw; (try dsimp only at hSw); go_simp; try with_reducible rfl)
          try simp only [Act.put, List.setIfInBounds_toArray, List.set_cons_zero, List.set_cons_succ]
          refine wpAnyH_take (i := 1) (oi := ({ dst := some 79, op := Go.Op.load 39 (Go.Operand.tmp 12), type := 39, pos := "table.go:137", after := #[], guard := none } : Oper)) (v := .agg (List.toArray (pickR how x y).cells)) rfl (by kernel_rfl) (by kernel_rfl) (by kernel_rfl) (fun _ _ _ h => h) (yieldsIf_load_mid (by rfl) _ _ rfl _ _ rfl (pickR how x y).cells _ (fun w hSw => (rangeAt_of_blk (hB14.keep hSw (hne _ (by omega))))) Try.underlying39 rfl (hi39 (pickR how x y))) (by assumption) ?_
          try simp only [Act.put, List.setIfInBounds_toArray, List.set_cons_zero, List.set_cons_succ]
          refine wpAnyH_take (i := 4) (oi := ({ dst := some 82, op := Go.Op.move (Go.Operand.tmp 0), type := 22, pos := "table.go:137", after := #[], guard := none } : Oper)) (v := ?_) rfl (by kernel_rfl) (by kernel_rfl) (by kernel_rfl) (fun _ _ _ h => h) (Or.inl ⟨by rfl, ?_⟩) (by assumption) ?_
          rotate_left
          · (intro w hSw; (try dsimp only at hSw); go_simp; try with_reducible rfl)
          try simp only [Act.put, List.setIfInBounds_toArray, List.set_cons_zero, List.set_cons_succ]
          refine wpAnyH_take (i := 5) (oi := ({ dst := some 83, op := Go.Op.slice 22 (Go.Operand.tmp 82) (some (Go.Operand.const (Go.Value.int Go.IntKind.i64 1))) none none, type := 22, pos := "table.go:137", after := #[{ on := 4, ground := Go.Ground.data }], guard := none } : Oper)) (v := ?_) rfl (by kernel_rfl) (by kernel_rfl) (by kernel_rfl) (fun _ _ _ h => h) (Or.inl ⟨by rfl, ?_⟩) (by assumption) ?_
          rotate_left
          · (intro w hSw; (try dsimp only at hSw); go_simp; try with_reducible rfl)
          try simp only [Act.put, List.setIfInBounds_toArray, List.set_cons_zero, List.set_cons_succ]
          refine wpAnyH_take (i := 6) (oi := ({ dst := some 84, op := Go.Op.move (Go.Operand.tmp 1), type := 22, pos := "table.go:137", after := #[], guard := none } : Oper)) (v := ?_) rfl (by kernel_rfl) (by kernel_rfl) (by kernel_rfl) (fun _ _ _ h => h) (Or.inl ⟨by rfl, ?_⟩) (by assumption) ?_
          rotate_left
          · (intro w hSw; (try dsimp only at hSw); go_simp; try with_reducible rfl)
          try simp only [Act.put, List.setIfInBounds_toArray, List.set_cons_zero, List.set_cons_succ]
          refine wpAnyH_take (i := 7) (oi := ({ dst := some 85, op := Go.Op.slice 22 (Go.Operand.tmp 84) (some (Go.Operand.const (Go.Value.int Go.IntKind.i64 1))) none none, type := 22, pos := "table.go:137", after := #[{ on := 6, ground := Go.Ground.data }], guard := none } : Oper)) (v := ?_) rfl (by kernel_rfl) (by kernel_rfl) (by kernel_rfl) (fun _ _ _ h => h) (Or.inl ⟨by rfl, ?_⟩) (by assumption) ?_
          rotate_left
          · (intro w hSw; (try dsimp only at hSw); go_simp; try with_reducible rfl)
          try simp only [Act.put, List.setIfInBounds_toArray, List.set_cons_zero, List.set_cons_succ]
          refine wpAnyH_ready (rs := [2]) (by kernel_rfl) (by simp) ?_
          refine (AllReadyH.cons (o := ({ dst := some 80, op := Go.Op.buildSlice 22 1 #[(0, Go.Operand.tmp 79)], type := 22, pos := "table.go:137", after := #[{ on := 1, ground := Go.Ground.data }], guard := none } : Oper)) rfl (fun K hK => ?_) AllReadyH.nil)
          (refine step_build1 rfl 22 39 (.tmp 79) rfl (pickR how x y).cells.toArray rfl (.agg Try.zeroCells39) 65 72 Try.underlying22 info39 (by simp [Res.len]) (by omega) (by omega) ?_)
          refine hK.out _ _ ?_ (fun hHeld1 => ?_)
          · (try dsimp only); first | exact (Keep.refl _ _).drew | exact ((Keep.refl _ _).drew).alloc _ | exact (((Keep.refl _ _).drew).alloc _).trans hk6 (fun b hb => Or.inl hb)
          clear hK K
          try simp only [Act.put, List.setIfInBounds_toArray, List.set_cons_zero, List.set_cons_succ]
          refine wpAnyH_ready (rs := [3]) (by kernel_rfl) (by simp) ?_
          refine (AllReadyH.cons (o := ({ dst := some 81, op := Go.Op.call { callee := Go.Callee.builtin Go.Builtin.append, args := #[Go.Operand.tmp 78, Go.Operand.tmp 80], argTypes := #[22, 22] }, type := 22, pos := "table.go:137", after := #[{ on := 0, ground := Go.Ground.data }, { on := 2, ground := Go.Ground.data }], guard := none } : Oper)) rfl (fun K hK => ?_) AllReadyH.nil)
          (refine step_appendN rfl (.tmp 78) (.tmp 80) 22 rfl 39 (.agg Try.zeroCells39) 65 72 Try.underlying22 info39 zero39 (by omega) (.slice ao nO co) nO (cellsOf O) rfl (after_build jsD.so).1 (some ⟨_, 0, none⟩) 1 1 (pickR how x y).cells rfl (res_len1 (pickR how x y)) (by simp) (after_build jsD.so).2.1 (Res.one (pickR how x y)) (by simp only [maxLen]; omega) (by omega) ?_; intro a6 c6 w6 hs6 hk6 hf6)
          refine hK.out _ _ ?_ (fun hHeld2 => ?_)
          · (try dsimp only); first | exact (Keep.refl _ _).drew | exact ((Keep.refl _ _).drew).alloc _ | exact (((Keep.refl _ _).drew).alloc _).trans hk6 (fun b hb => Or.inl hb)
          clear hK K
          try simp only [Act.put, List.setIfInBounds_toArray, List.set_cons_zero, List.set_cons_succ]
          refine wpAnyH_take (i := 8) (oi := ({ dst := some 10, op := Go.Op.assign (Go.Operand.tmp 81), type := 22, pos := "table.go:137", after := #[{ on := 3, ground := Go.Ground.data }, { on := 3, ground := Go.Ground.chain }, { on := 0, ground := Go.Ground.phase }, { on := 1, ground := Go.Ground.phase }, { on := 2, ground := Go.Ground.phase }, { on := 3, ground := Go.Ground.phase }, { on := 4, ground := Go.Ground.textOnly Go.Departure.lateStores }, { on := 5, ground := Go.Ground.textOnly Go.Departure.lateStoresUnsure }, { on := 6, ground := Go.Ground.textOnly Go.Departure.lateStores }, { on := 7, ground := Go.Ground.textOnly Go.Departure.lateStoresUnsure }], guard := none } : Oper)) (v := ?_) rfl (by kernel_rfl) (by kernel_rfl) (by kernel_rfl) (fun _ _ _ h => h) (Or.inl ⟨by rfl, ?_⟩) (by assumption) ?_
          rotate_left
          · (intro w hSw; (try dsimp only at hSw); go_simp; try with_reducible rfl)
          try simp only [Act.put, List.setIfInBounds_toArray, List.set_cons_zero, List.set_cons_succ]
          refine wpAnyH_take (i := 9) (oi := ({ dst := some 0, op := Go.Op.assign (Go.Operand.tmp 83), type := 22, pos := "table.go:137", after := #[{ on := 5, ground := Go.Ground.data }, { on := 8, ground := Go.Ground.chain }, { on := 0, ground := Go.Ground.phase }, { on := 1, ground := Go.Ground.phase }, { on := 2, ground := Go.Ground.phase }, { on := 3, ground := Go.Ground.phase }, { on := 4, ground := Go.Ground.phase }, { on := 5, ground := Go.Ground.phase }, { on := 6, ground := Go.Ground.textOnly Go.Departure.lateStores }, { on := 7, ground := Go.Ground.textOnly Go.Departure.lateStoresUnsure }, { on := 8, ground := Go.Ground.phase }], guard := none } : Oper)) (v := ?_) rfl (by kernel_rfl) (by kernel_rfl) (by kernel_rfl) (fun _ _ _ h => h) (Or.inl ⟨by rfl, ?_⟩) (by assumption) ?_
          rotate_left
          · (intro w hSw; (try dsimp only at hSw); go_simp; try with_reducible rfl)
          try simp only [Act.put, List.setIfInBounds_toArray, List.set_cons_zero, List.set_cons_succ]
          refine wpAnyH_take (i := 10) (oi := ({ dst := some 1, op := Go.Op.assign (Go.Operand.tmp 85), type := 22, pos := "table.go:137", after := #[{ on := 7, ground := Go.Ground.data }, { on := 9, ground := Go.Ground.chain }, { on := 0, ground := Go.Ground.phase }, { on := 1, ground := Go.Ground.phase }, { on := 2, ground := Go.Ground.phase }, { on := 3, ground := Go.Ground.phase }, { on := 4, ground := Go.Ground.phase }, { on := 5, ground := Go.Ground.phase }, { on := 6, ground := Go.Ground.phase }, { on := 7, ground := Go.Ground.phase }, { on := 8, ground := Go.Ground.phase }, { on := 9, ground := Go.Ground.phase }], guard := none } : Oper)) (v := ?_) rfl (by kernel_rfl) (by kernel_rfl) (by kernel_rfl) (fun _ _ _ h => h) (Or.inl ⟨by rfl, ?_⟩) (by assumption) ?_
          rotate_left
          · (intro w hSw; (try dsimp only at hSw); go_simp; try with_reducible rfl)
          try simp only [Act.put, List.setIfInBounds_toArray, List.set_cons_zero, List.set_cons_succ]
          refine wpAnyH_done (by kernel_rfl) ?_ _
          refine NoPanic.normal ?_
          have jsF := (jsD.keep0 (after_build jsD.so (x := (pickR how x y))).2.2).out (Z := [pickR how x y]) rfl (by rw [cellsOf_one]; exact hs6) hk6 hf6; go_wp2_with fail; exact ⟨⟨_, _, _, _, _, _, _, _, _, _, _, _, _, _, _, _, rfl, rfl, rfl, rfl, HRS.out.2.2.1, HRS.out.2.2.2, jsF, by rw [← HJ.out.1, joinO_eq (nlt HD.out.1) (nlt HD.out.2), List.append_assoc]; rfl, by rw [← HJ.out.2, joinK_eq (nlt HD.out.1) (nlt HD.out.2), if_neg HXY.out, List.append_assoc], by omega, by omega⟩, by simp [slLen]; omega⟩
end Go.Proofs.Ytjdkeabimcajlaa

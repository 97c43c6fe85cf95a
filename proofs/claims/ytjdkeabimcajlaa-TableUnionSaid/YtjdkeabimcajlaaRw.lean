/- With of the law. -/
import Derived.Test.YtjdkeabimcajlaaRp
set_option linter.unusedVariables false
set_option linter.unusedSimpArgs false
namespace Go.Proofs.Ytjdkeabimcajlaa
open Go.RowKit

theorem after_build {w : World} {x : Res} {v : Value} {n : Nat} {vs : List Value} (s : Sl w 39 65 v n vs) :
    Sl (w.alloc (.cells x.cells.toArray 39)) 39 65 v n vs ∧ Rd (w.alloc (.cells x.cells.toArray 39)) (some ⟨w.heap.size, 0, none⟩) x.cells ∧ Keep [] w (w.alloc (.cells x.cells.toArray 39)) :=
  ⟨s.keep ((Keep.refl [] w).alloc _) (by simp), Rd.of_blk (Blk.new w _ 39) 0 (fun j v hj => by rw [Nat.zero_add]; exact hj), (Keep.refl [] w).alloc _⟩
theorem res_len1 (x : Res) : x.cells.length = 1 * 65 := by rw [x.len]

/-- What holds ahead of the i-th result. -/
def RwI (W : World) (l : List Res) (x : Res) (n : Nat) (v7 v8 v9 : Value) (wr : World) : Prop :=
  ∃ (i : Nat) (ao : Option Addr) (m co : Nat), i ≤ n ∧ v7 = .slice ao m co ∧ v8 = .bool (decide (plc l x.act < i)) ∧ v9 = .int .i64 (i : Nat) ∧ (outAt l x i).length = m ∧ Sl wr 39 65 (.slice ao m co) m (cellsOf (outAt l x i)) ∧ Fr W [] (blks (.slice ao m co)) ∧ Keep [] W wr
theorem RwI.one {W w9 w6 : World} {l : List Res} {x z : Res} {n i m ca c1 : Nat} {ao a1 : Option Addr} {d : Bool} {k : Int} (hi : i + 1 ≤ n) (ho : outAt l x (i + 1) = outAt l x i ++ [z]) (hd : d = decide (plc l x.act < i + 1)) (hk : k = (i + 1 : Nat)) (hm : (outAt l x i).length = m)
    (hs : Sl w6 39 65 (.slice a1 (m + 1) c1) (m + 1) (cellsOf (outAt l x i) ++ z.cells)) (hf0 : Fr W [] (blks (.slice ao m ca))) (hf : Fr w9 (blks (.slice ao m ca)) (blks (.slice a1 (m + 1) c1))) (hw : W.heap.size ≤ w9.heap.size) (k6 : Keep [] W w6) :
    RwI W l x n (.slice a1 (m + 1) c1) (.bool d) (.int .i64 k) w6 := by
  subst hd; subst hk
  refine ⟨i + 1, a1, m + 1, c1, hi, rfl, rfl, rfl, by rw [ho]; simp [hm], by rw [ho, cellsOf_append, cellsOf_one]; exact hs, hf0.trans hf hw, k6⟩

theorem RwI.two {W w9 w8 w7 : World} {l : List Res} {x y : Res} {n i m ca c1 c2 : Nat} {ao a1 a2 : Option Addr} {d : Bool} {k : Int} (hi : i + 1 ≤ n) (ho : outAt l x (i + 1) = (outAt l x i ++ [x]) ++ [y]) (hd : d = decide (plc l x.act < i + 1)) (hk : k = (i + 1 : Nat)) (hm : (outAt l x i).length = m)
    (hs : Sl w7 39 65 (.slice a2 (m + 1 + 1) c2) (m + 1 + 1) ((cellsOf (outAt l x i) ++ x.cells) ++ y.cells)) (hf0 : Fr W [] (blks (.slice ao m ca))) (hf1 : Fr w9 (blks (.slice ao m ca)) (blks (.slice a1 (m + 1) c1))) (hf2 : Fr w8 (blks (.slice a1 (m + 1) c1)) (blks (.slice a2 (m + 1 + 1) c2))) (hw : W.heap.size ≤ w9.heap.size) (hw2 : W.heap.size ≤ w8.heap.size) (k6 : Keep [] W w7) :
    RwI W l x n (.slice a2 (m + 1 + 1) c2) (.bool d) (.int .i64 k) w7 := by
  subst hd; subst hk
  refine ⟨i + 1, a2, m + 1 + 1, c2, hi, rfl, rfl, rfl, by rw [ho]; simp [hm], by rw [ho, cellsOf_append, cellsOf_append, cellsOf_one, cellsOf_one]; exact hs, (hf0.trans hf1 hw).trans hf2 hw2, k6⟩

theorem keep_app {W w w1 w2 : World} {S : List Nat} (k : Keep [] W w) (k1 : Keep [] w w1) (k2 : Keep S w1 w2) (hf : Fr W [] S) : Keep [] W w2 :=
  (k.trans' k1).trans k2 (fun b hb => by rcases hf b hb with h | h; cases h; exact Or.inr h)

set_option maxHeartbeats 1000000 in
set_option maxRecDepth 100000 in
theorem refWith_any (a : Option Addr) (n c : Nat) (l : List Res) (x : Res) (w : World) (hx : RsIn w a n c l) :
    Calls Try.prog 23 #[.slice a n c, .agg x.cells.toArray] w (Give w (givR l x) (withC l x)) := by
  obtain ⟨T, hT⟩ : ∃ T, w.heap.size = T := ⟨_, rfl⟩
  obtain ⟨W, hW⟩ : ∃ W, w.alloc (.cells x.cells.toArray 39) = W := ⟨_, rfl⟩
  have BX : Blk W T x.cells.toArray 39 := by rw [← hW, ← hT]; exact Blk.new w _ 39
  have kW : Keep [] w W := by rw [← hW]; exact (Keep.refl [] w).alloc _
  have hxW := hx.keep kW (by simp)
  have HW := Lib.hid hW
  have HT := Lib.hid hT
  clear hW hT
  cases hv : validR l with
  | false =>
    obtain ⟨g1, g2⟩ := giv_no (l := l) (x := x) (by simp [hv])
    have HV := Lib.hid hv
    clear hv
    rw [g1, g2]
    go_enter Try.func23, Try.ntmps23
    go_upto_region 1 with fail
    rw [HW.out, HT.out]
    go_wp2_with (first | (go_at_call 18; refine (refValid_any a n c l _ hxW).mono ?_; rintro e w1 ⟨rfl, k1⟩; rw [HV.out]) | fail)
    go_returns
    exact Give.nil (kW.trans' k1)
  | true =>
    obtain ⟨z, hz⟩ : ∃ z, x.code = z := ⟨_, rfl⟩
    have HZ := Lib.hid hz
    have cX : W.cell? ⟨T, 64, none⟩ = some (.int .i64 z) := by rw [← hz]; exact BX.cell (by simpa using x.code_at)
    clear hz
    by_cases hz0 : z < 0
    · obtain ⟨g1, g2⟩ := giv_no (l := l) (x := x) (by rw [fit_no HZ.out (Or.inl hz0)]; simp)
      have HV := Lib.hid hv
      clear hv
      rw [g1, g2]
      go_enter Try.func23, Try.ntmps23
      go_upto_region 1 with fail
      rw [HW.out, HT.out]
      go_wp2_with (first | (go_at_call 18; refine (refValid_any a n c l _ hxW).mono ?_; rintro e w1 ⟨rfl, k1⟩; rw [HV.out]; have cX1 := k1.cell cX (by simp)) | fail)
      go_returns
      exact Give.nil (kW.trans' k1)
    by_cases hz1 : 255 < z
    · obtain ⟨g1, g2⟩ := giv_no (l := l) (x := x) (by rw [fit_no HZ.out (Or.inr hz1)]; simp)
      have HV := Lib.hid hv
      clear hv
      rw [g1, g2]
      go_enter Try.func23, Try.ntmps23
      go_upto_region 1 with fail
      rw [HW.out, HT.out]
      go_wp2_with (first | (go_at_call 18; refine (refValid_any a n c l _ hxW).mono ?_; rintro e w1 ⟨rfl, k1⟩; rw [HV.out]; have cX1 := k1.cell cX (by simp)) | fail)
      go_returns
      exact Give.nil (kW.trans' k1)
    have hvf : validR l = true ∧ fitR x = true := ⟨hv, fit_yes HZ.out (by omega) (by omega)⟩
    obtain ⟨h32, hok⟩ : l.length ≤ 32 ∧ okTo l l.length = true := by simpa [validR] using hv
    have hl := hx.hlen
    have n32 : n ≤ 32 := by omega
    have HV := Lib.hid hv
    have HO := Lib.hid (And.intro hok (And.intro h32 hl))
    have HVF := Lib.hid hvf
    clear hv hok h32 hl hvf
    obtain ⟨N, hN, hso⟩ := size39
    have HN := Lib.hid hN
    clear hN
    go_enter Try.func23, Try.ntmps23
    go_upto_region 1 with fail
    rw [HW.out, HT.out]
    go_upto_region 4 with (first | (go_at_call 18; refine (refValid_any a n c l _ hxW).mono ?_; rintro e w1 ⟨rfl, k1⟩; rw [HV.out]; have cX1 := k1.cell cX (by simp)) | fail)
    clear cX cX1 hz0 hz1 hx
    go_wp2_with fail
    go_loopw [7, 8, 9] (fun v7 v8 v9 wr => RwI W l x n v7 v8 v9 wr) (fun _ _ v9 _ => n - (intOf v9).toNat)
    case atStart => exact ⟨0, none, 0, 0, by omega, rfl, by simp, rfl, by rw [outAt_low (by omega)]; rfl, by rw [outAt_low (by omega)]; exact Sl.nil _ _ _, by intro b hb; simp [blks, Value.ownBlock] at hb, k1⟩
    case round =>
      obtain ⟨i, ao, m, co, hi, rfl, rfl, rfl, hm, hs, hf, kk⟩ := hrel
      obtain ⟨cs, hcs⟩ : ∃ cs, cellsOf (outAt l x i) = cs := ⟨_, rfl⟩
      rw [hcs] at hs
      have HCS := Lib.hid (And.intro hcs hm)
      have hml : m ≤ i + 1 := by rw [← hm]; exact outAt_len l x i (by have := HO.out.2.2; omega)
      clear hcs hm
      have hf' := Lib.hid hf
      by_cases hlt : i < n
      · obtain ⟨y, b, off, ey, rfl, ryW⟩ := hxW.at hlt
        rw [HN.out] at ryW
        have ry := rangeAt_keep ryW kk (by simp)
        have rX := rangeAt_of_blk (BX.keep kk (by simp))
        have hS : S2 wr b (off + i * N) y T 0 x wr := ⟨ry, rX, Keep.refl _ _⟩
        have i0 : (0 : Int) ≤ i := by omega
        have i1 : (i : Int) < n := by omega
        have HEY := Lib.hid ey
        obtain ⟨CC, hCC⟩ : ∃ CC, Lib.compareBytes y.act x.act = CC := ⟨_, rfl⟩
        have ORD := Lib.hid (fun W => order_any y.act x.act W y.la x.la)
        rw [hCC] at ORD
        have hxr := hxW
        clear ry rX ey hf
        rcases Nat.lt_trichotomy i (plc l x.act) with hp | hp | hp
        · have hc0 : CC < 0 := by rw [← hCC]; exact ord_before HO.out.1 HEY.out hp
          have hd : decide (plc l x.act < i) = false := decide_eq_false (by omega)
          have HP := Lib.hid hp
          rw [hd]
          clear hCC hd hp hlt
          go_upto_region 9 with fail
          refine wp_region_noPanic ?_
          refine wp_region_held_drew (S := S2 wr b (off + i * N) y T 0 x) (by kernel_rfl) ?_ (fun hHeld0 => ?_)
          · (try dsimp only); first | exact S2.step hS ((Keep.refl [] _).drew) | exact S2.step (by assumption) hk
          refine wpAnyH_take (i := 0) (oi := ({ dst := some 31, op := Go.Op.move (Go.Operand.tmp 0), type := 22, pos := "freightref8.go:107", after := #[], guard := none } : Oper)) (v := ?_) rfl (by kernel_rfl) (by kernel_rfl) (by kernel_rfl) (fun _ _ _ h => h) (Or.inl ⟨by rfl, ?_⟩) (by assumption) ?_
          rotate_left
          · (intro w hSw; (try dsimp only at hSw); go_simp; try with_reducible rfl)
          try simp only [Act.put, List.setIfInBounds_toArray, List.set_cons_zero, List.set_cons_succ]
          refine wpAnyH_take (i := 1) (oi := ({ dst := some 32, op := Go.Op.move (Go.Operand.tmp 9), type := 3, pos := "freightref8.go:107", after := #[], guard := none } : Oper)) (v := ?_) rfl (by kernel_rfl) (by kernel_rfl) (by kernel_rfl) (fun _ _ _ h => h) (Or.inl ⟨by rfl, ?_⟩) (by assumption) ?_
          rotate_left
          · (intro w hSw; (try dsimp only at hSw); go_simp; try with_reducible rfl)
          try simp only [Act.put, List.setIfInBounds_toArray, List.set_cons_zero, List.set_cons_succ]
          refine wpAnyH_take (i := 2) (oi := ({ dst := some 33, op := Go.Op.indexAddr 22 (Go.Operand.tmp 31) (Go.Operand.tmp 32), type := 0, pos := "freightref8.go:107", after := #[{ on := 0, ground := Go.Ground.data }, { on := 1, ground := Go.Ground.data }], guard := none } : Oper)) (v := ?_) rfl (by kernel_rfl) (by kernel_rfl) (by kernel_rfl) (fun _ _ _ h => h) (Or.inl ⟨by rfl, ?_⟩) (by assumption) ?_
          rotate_left
          · (intro w hSw; (try dsimp only at hSw); go_simp; try with_reducible rfl)
          try simp only [Act.put, List.setIfInBounds_toArray, List.set_cons_zero, List.set_cons_succ]
          refine wpAnyH_take (i := 3) (oi := ({ dst := some 34, op := Go.Op.fieldAddr 39 (Go.Operand.tmp 33) 0, type := 0, pos := "freightref8.go:107", after := #[{ on := 2, ground := Go.Ground.data }], guard := none } : Oper)) (v := ?_) rfl (by kernel_rfl) (by kernel_rfl) (by kernel_rfl) (fun _ _ _ h => h) (Or.inl ⟨by rfl, ?_⟩) (by assumption) ?_
          rotate_left
          · (intro w hSw; (try dsimp only at hSw); go_simp; try with_reducible rfl)
          try simp only [Act.put, List.setIfInBounds_toArray, List.set_cons_zero, List.set_cons_succ]
          refine wpAnyH_take (i := 4) (oi := ({ dst := some 35, op := Go.Op.load 37 (Go.Operand.tmp 34), type := 37, pos := "freightref8.go:107", after := #[{ on := 3, ground := Go.Ground.data }], guard := none } : Oper)) (v := .agg (List.toArray (bs y.act))) rfl (by kernel_rfl) (by kernel_rfl) (by kernel_rfl) (fun _ _ _ h => h) (yieldsIf_load_mid (by rfl) _ _ rfl _ _ rfl (bs y.act) _ (fun w hSw => (rangeAt_act hSw.1)) Try.underlying37 rfl (hi37 y.la)) (by assumption) ?_
          try simp only [Act.put, List.setIfInBounds_toArray, List.set_cons_zero, List.set_cons_succ]
          refine wpAnyH_take (i := 5) (oi := ({ dst := some 36, op := Go.Op.fieldAddr 39 (Go.Operand.tmp 3) 0, type := 0, pos := "freightref8.go:107", after := #[], guard := none } : Oper)) (v := ?_) rfl (by kernel_rfl) (by kernel_rfl) (by kernel_rfl) (fun _ _ _ h => h) (Or.inl ⟨by rfl, ?_⟩) (by assumption) ?_
          rotate_left
          · (intro w hSw; (try dsimp only at hSw); go_simp; try with_reducible rfl)
          try simp only [Act.put, List.setIfInBounds_toArray, List.set_cons_zero, List.set_cons_succ]
          refine wpAnyH_take (i := 6) (oi := ({ dst := some 37, op := Go.Op.load 37 (Go.Operand.tmp 36), type := 37, pos := "freightref8.go:107", after := #[{ on := 5, ground := Go.Ground.data }], guard := none } : Oper)) (v := .agg (List.toArray (bs x.act))) rfl (by kernel_rfl) (by kernel_rfl) (by kernel_rfl) (fun _ _ _ h => h) (yieldsIf_load_mid (by rfl) _ _ rfl _ _ rfl (bs x.act) _ (fun w hSw => (rangeAt_act hSw.2.1)) Try.underlying37 rfl (hi37 x.la)) (by assumption) ?_
          try simp only [Act.put, List.setIfInBounds_toArray, List.set_cons_zero, List.set_cons_succ]
          refine wpAnyH_ready (rs := [7]) (by kernel_rfl) (by simp) ?_
          refine (AllReadyH.cons (o := ({ dst := some 38, op := Go.Op.call { callee := Go.Callee.value (Go.Operand.func 44), args := #[Go.Operand.tmp 35, Go.Operand.tmp 37], argTypes := #[37, 37] }, type := 3, pos := "freightref8.go:107", after := #[{ on := 4, ground := Go.Ground.data }, { on := 6, ground := Go.Ground.data }], guard := none } : Oper)) rfl (fun K hK => ?_) AllReadyH.nil)
          go_simp
          (refine (ORD.out _).mono ?_; rintro e w' ⟨rfl, hk⟩)
          go_wp2_with fail
          refine hK.out _ _ ?_ (fun hHeld1 => ?_)
          · (try dsimp only); first | exact S2.step hS ((Keep.refl [] _).drew) | exact S2.step (by assumption) hk
          clear hK K
          try simp only [Act.put, List.setIfInBounds_toArray, List.set_cons_zero, List.set_cons_succ]
          refine wpAnyH_take (i := 8) (oi := ({ dst := some 10, op := Go.Op.assign (Go.Operand.tmp 38), type := 3, pos := "freightref8.go:107", after := #[{ on := 7, ground := Go.Ground.data }, { on := 7, ground := Go.Ground.chain }, { on := 0, ground := Go.Ground.phase }, { on := 1, ground := Go.Ground.phase }, { on := 2, ground := Go.Ground.phase }, { on := 3, ground := Go.Ground.phase }, { on := 4, ground := Go.Ground.phase }, { on := 5, ground := Go.Ground.phase }, { on := 6, ground := Go.Ground.phase }, { on := 7, ground := Go.Ground.phase }], guard := none } : Oper)) (v := ?_) rfl (by kernel_rfl) (by kernel_rfl) (by kernel_rfl) (fun _ _ _ h => h) (Or.inl ⟨by rfl, ?_⟩) (by assumption) ?_
          rotate_left
          · (intro w hSw; (try dsimp only at hSw); go_simp; try with_reducible rfl)
          try simp only [Act.put, List.setIfInBounds_toArray, List.set_cons_zero, List.set_cons_succ]
          refine wpAnyH_done (by kernel_rfl) ?_ _
          refine NoPanic.normal ?_
          have hR := (by assumption : S2 wr b (off + i * N) y T 0 x _); have hs9 := hs.keep hR.2.2 (by simp); have k9 := kk.trans' hR.2.2; go_wp2_with (first  | (refine wpList_load_mid rfl 39 (.tmp 3) rfl T 0 rfl x.cells _ hR.2.1 Try.underlying39 rfl (hi39 x) ?_)  | (refine wpList_load_mid rfl 39 (.tmp 54) rfl b (off + i * N) rfl y.cells _ hR.1 Try.underlying39 rfl (hi39 y) ?_)  | (refine wpList_build1 rfl 22 39 (.tmp 46) rfl x.cells.toArray rfl (.agg Try.zeroCells39) 65 72 Try.underlying22 info39 (by simp [x.len]) (by omega) (by omega) ?_)  | (refine wpList_build1 rfl 22 39 (.tmp 55) rfl y.cells.toArray rfl (.agg Try.zeroCells39) 65 72 Try.underlying22 info39 (by simp [y.len]) (by omega) (by omega) ?_)  | (at_builtin; refine wpList_appendN rfl (.tmp 45) (.tmp 47) 22 rfl 39 (.agg Try.zeroCells39) 65 72 Try.underlying22 info39 zero39 (by omega) (.slice ao m co) m cs rfl (after_build hs9).1 (some ⟨_, 0, none⟩) 1 1 x.cells rfl (res_len1 x) (by simp) (after_build hs9).2.1 x.one (by simp only [maxLen]; omega) (by omega) ?_; intro a6 c6 w6 hs6 hk6 hf6)  | (at_builtin; refine wpList_appendN rfl (.tmp 51) (.tmp 56) 22 rfl 39 (.agg Try.zeroCells39) 65 72 Try.underlying22 info39 zero39 (by omega) (.slice ao m co) m cs rfl (after_build hs9).1 (some ⟨_, 0, none⟩) 1 1 y.cells rfl (res_len1 y) (by simp) (after_build hs9).2.1 y.one (by simp only [maxLen]; omega) (by omega) ?_; intro a7 c7 w7 hs7 hk7 hf7)  | fail); refine ⟨RwI.one (by omega) (outAt_before HEY.out HP.out) (by symm; exact decide_eq_false (by have := HP.out; omega)) (by go_num) HCS.out.2 (by rw [HCS.out.1]; exact hs7) hf'.out hf7 (by have := k9.size; have := (after_build hs9 (x := y)).2.2.size; omega) (keep_app k9 (after_build hs9).2.2 hk7 hf'.out), by simp [intOf]; omega⟩
        · have ho := ord_at HO.out.1 HEY.out hp
          rw [hCC] at ho
          have hd : decide (plc l x.act < i) = false := decide_eq_false (by omega)
          have HP := Lib.hid hp
          rw [hd]
          cases hh : hitR l x.act with
          | true =>
            have hc0 : CC = 0 := ho.2.1 hh
            have HH := Lib.hid hh
            clear hh
            subst hc0
            clear hCC hd hp hlt ho
            go_upto_region 9 with fail
            refine wp_region_noPanic ?_
            refine wp_region_held_drew (S := S2 wr b (off + i * N) y T 0 x) (by kernel_rfl) ?_ (fun hHeld0 => ?_)
            · (try dsimp only); first | exact S2.step hS ((Keep.refl [] _).drew) | exact S2.step (by assumption) hk
            refine wpAnyH_take (i := 0) (oi := ({ dst := some 31, op := Go.Op.move (Go.Operand.tmp 0), type := 22, pos := "freightref8.go:107", after := #[], guard := none } : Oper)) (v := ?_) rfl (by kernel_rfl) (by kernel_rfl) (by kernel_rfl) (fun _ _ _ h => h) (Or.inl ⟨by rfl, ?_⟩) (by assumption) ?_
            rotate_left
            · (intro w hSw; (try dsimp only at hSw); go_simp; try with_reducible rfl)
            try simp only [Act.put, List.setIfInBounds_toArray, List.set_cons_zero, List.set_cons_succ]
            refine wpAnyH_take (i := 1) (oi := ({ dst := some 32, op := Go.Op.move (Go.Operand.tmp 9), type := 3, pos := "freightref8.go:107", after := #[], guard := none } : Oper)) (v := ?_) rfl (by kernel_rfl) (by kernel_rfl) (by kernel_rfl) (fun _ _ _ h => h) (Or.inl ⟨by rfl, ?_⟩) (by assumption) ?_
            rotate_left
            · (intro w hSw; (try dsimp only at hSw); go_simp; try with_reducible rfl)
            try simp only [Act.put, List.setIfInBounds_toArray, List.set_cons_zero, List.set_cons_succ]
            refine wpAnyH_take (i := 2) (oi := ({ dst := some 33, op := Go.Op.indexAddr 22 (Go.Operand.tmp 31) (Go.Operand.tmp 32), type := 0, pos := "freightref8.go:107", after := #[{ on := 0, ground := Go.Ground.data }, { on := 1, ground := Go.Ground.data }], guard := none } : Oper)) (v := ?_) rfl (by kernel_rfl) (by kernel_rfl) (by kernel_rfl) (fun _ _ _ h => h) (Or.inl ⟨by rfl, ?_⟩) (by assumption) ?_
            rotate_left
            · (intro w hSw; (try dsimp only at hSw); go_simp; try with_reducible rfl)
            try simp only [Act.put, List.setIfInBounds_toArray, List.set_cons_zero, List.set_cons_succ]
            refine wpAnyH_take (i := 3) (oi := ({ dst := some 34, op := Go.Op.fieldAddr 39 (Go.Operand.tmp 33) 0, type := 0, pos := "freightref8.go:107", after := #[{ on := 2, ground := Go.Ground.data }], guard := none } : Oper)) (v := ?_) rfl (by kernel_rfl) (by kernel_rfl) (by kernel_rfl) (fun _ _ _ h => h) (Or.inl ⟨by rfl, ?_⟩) (by assumption) ?_
            rotate_left
            · (intro w hSw; (try dsimp only at hSw); go_simp; try with_reducible rfl)
            try simp only [Act.put, List.setIfInBounds_toArray, List.set_cons_zero, List.set_cons_succ]
            refine wpAnyH_take (i := 4) (oi := ({ dst := some 35, op := Go.Op.load 37 (Go.Operand.tmp 34), type := 37, pos := "freightref8.go:107", after := #[{ on := 3, ground := Go.Ground.data }], guard := none } : Oper)) (v := .agg (List.toArray (bs y.act))) rfl (by kernel_rfl) (by kernel_rfl) (by kernel_rfl) (fun _ _ _ h => h) (yieldsIf_load_mid (by rfl) _ _ rfl _ _ rfl (bs y.act) _ (fun w hSw => (rangeAt_act hSw.1)) Try.underlying37 rfl (hi37 y.la)) (by assumption) ?_
            try simp only [Act.put, List.setIfInBounds_toArray, List.set_cons_zero, List.set_cons_succ]
            refine wpAnyH_take (i := 5) (oi := ({ dst := some 36, op := Go.Op.fieldAddr 39 (Go.Operand.tmp 3) 0, type := 0, pos := "freightref8.go:107", after := #[], guard := none } : Oper)) (v := ?_) rfl (by kernel_rfl) (by kernel_rfl) (by kernel_rfl) (fun _ _ _ h => h) (Or.inl ⟨by rfl, ?_⟩) (by assumption) ?_
            rotate_left
            · (intro w hSw; (try dsimp only at hSw); go_simp; try with_reducible rfl)
            try simp only [Act.put, List.setIfInBounds_toArray, List.set_cons_zero, List.set_cons_succ]
            refine wpAnyH_take (i := 6) (oi := ({ dst := some 37, op := Go.Op.load 37 (Go.Operand.tmp 36), type := 37, pos := "freightref8.go:107", after := #[{ on := 5, ground := Go.Ground.data }], guard := none } : Oper)) (v := .agg (List.toArray (bs x.act))) rfl (by kernel_rfl) (by kernel_rfl) (by kernel_rfl) (fun _ _ _ h => h) (yieldsIf_load_mid (by rfl) _ _ rfl _ _ rfl (bs x.act) _ (fun w hSw => (rangeAt_act hSw.2.1)) Try.underlying37 rfl (hi37 x.la)) (by assumption) ?_
            try simp only [Act.put, List.setIfInBounds_toArray, List.set_cons_zero, List.set_cons_succ]
            refine wpAnyH_ready (rs := [7]) (by kernel_rfl) (by simp) ?_
            refine (AllReadyH.cons (o := ({ dst := some 38, op := Go.Op.call { callee := Go.Callee.value (Go.Operand.func 44), args := #[Go.Operand.tmp 35, Go.Operand.tmp 37], argTypes := #[37, 37] }, type := 3, pos := "freightref8.go:107", after := #[{ on := 4, ground := Go.Ground.data }, { on := 6, ground := Go.Ground.data }], guard := none } : Oper)) rfl (fun K hK => ?_) AllReadyH.nil)
            go_simp
            (refine (ORD.out _).mono ?_; rintro e w' ⟨rfl, hk⟩)
            go_wp2_with fail
            refine hK.out _ _ ?_ (fun hHeld1 => ?_)
            · (try dsimp only); first | exact S2.step hS ((Keep.refl [] _).drew) | exact S2.step (by assumption) hk
            clear hK K
            try simp only [Act.put, List.setIfInBounds_toArray, List.set_cons_zero, List.set_cons_succ]
            refine wpAnyH_take (i := 8) (oi := ({ dst := some 10, op := Go.Op.assign (Go.Operand.tmp 38), type := 3, pos := "freightref8.go:107", after := #[{ on := 7, ground := Go.Ground.data }, { on := 7, ground := Go.Ground.chain }, { on := 0, ground := Go.Ground.phase }, { on := 1, ground := Go.Ground.phase }, { on := 2, ground := Go.Ground.phase }, { on := 3, ground := Go.Ground.phase }, { on := 4, ground := Go.Ground.phase }, { on := 5, ground := Go.Ground.phase }, { on := 6, ground := Go.Ground.phase }, { on := 7, ground := Go.Ground.phase }], guard := none } : Oper)) (v := ?_) rfl (by kernel_rfl) (by kernel_rfl) (by kernel_rfl) (fun _ _ _ h => h) (Or.inl ⟨by rfl, ?_⟩) (by assumption) ?_
            rotate_left
            · (intro w hSw; (try dsimp only at hSw); go_simp; try with_reducible rfl)
            try simp only [Act.put, List.setIfInBounds_toArray, List.set_cons_zero, List.set_cons_succ]
            refine wpAnyH_done (by kernel_rfl) ?_ _
            refine NoPanic.normal ?_
            have hR := (by assumption : S2 wr b (off + i * N) y T 0 x _); have hs9 := hs.keep hR.2.2 (by simp); have k9 := kk.trans' hR.2.2; go_wp2_with (first  | (refine wpList_load_mid rfl 39 (.tmp 3) rfl T 0 rfl x.cells _ hR.2.1 Try.underlying39 rfl (hi39 x) ?_)  | (refine wpList_load_mid rfl 39 (.tmp 54) rfl b (off + i * N) rfl y.cells _ hR.1 Try.underlying39 rfl (hi39 y) ?_)  | (refine wpList_build1 rfl 22 39 (.tmp 46) rfl x.cells.toArray rfl (.agg Try.zeroCells39) 65 72 Try.underlying22 info39 (by simp [x.len]) (by omega) (by omega) ?_)  | (refine wpList_build1 rfl 22 39 (.tmp 55) rfl y.cells.toArray rfl (.agg Try.zeroCells39) 65 72 Try.underlying22 info39 (by simp [y.len]) (by omega) (by omega) ?_)  | (at_builtin; refine wpList_appendN rfl (.tmp 45) (.tmp 47) 22 rfl 39 (.agg Try.zeroCells39) 65 72 Try.underlying22 info39 zero39 (by omega) (.slice ao m co) m cs rfl (after_build hs9).1 (some ⟨_, 0, none⟩) 1 1 x.cells rfl (res_len1 x) (by simp) (after_build hs9).2.1 x.one (by simp only [maxLen]; omega) (by omega) ?_; intro a6 c6 w6 hs6 hk6 hf6)  | (at_builtin; refine wpList_appendN rfl (.tmp 51) (.tmp 56) 22 rfl 39 (.agg Try.zeroCells39) 65 72 Try.underlying22 info39 zero39 (by omega) (.slice ao m co) m cs rfl (after_build hs9).1 (some ⟨_, 0, none⟩) 1 1 y.cells rfl (res_len1 y) (by simp) (after_build hs9).2.1 y.one (by simp only [maxLen]; omega) (by omega) ?_; intro a7 c7 w7 hs7 hk7 hf7)  | fail); refine ⟨RwI.one (by omega) (outAt_hit HEY.out HP.out HH.out) (by symm; exact decide_eq_true (by have := HP.out; omega)) (by go_num) HCS.out.2 (by rw [HCS.out.1]; exact hs6) hf'.out hf6 (by have := k9.size; have := (after_build hs9 (x := x)).2.2.size; omega) (keep_app k9 (after_build hs9).2.2 hk6 hf'.out), by simp [intOf]; omega⟩
          | false =>
            have hc0 : 0 ≤ CC := ho.1
            have hc1 : ¬ CC = 0 := fun e => by rw [ho.2.2 e] at hh; cases hh
            have HH := Lib.hid hh
            clear hh
            clear hCC hd hp hlt ho
            go_upto_region 9 with fail
            refine wp_region_noPanic ?_
            refine wp_region_held_drew (S := S2 wr b (off + i * N) y T 0 x) (by kernel_rfl) ?_ (fun hHeld0 => ?_)
            · (try dsimp only); first | exact S2.step hS ((Keep.refl [] _).drew) | exact S2.step (by assumption) hk
            refine wpAnyH_take (i := 0) (oi := ({ dst := some 31, op := Go.Op.move (Go.Operand.tmp 0), type := 22, pos := "freightref8.go:107", after := #[], guard := none } : Oper)) (v := ?_) rfl (by kernel_rfl) (by kernel_rfl) (by kernel_rfl) (fun _ _ _ h => h) (Or.inl ⟨by rfl, ?_⟩) (by assumption) ?_
            rotate_left
            · (intro w hSw; (try dsimp only at hSw); go_simp; try with_reducible rfl)
            try simp only [Act.put, List.setIfInBounds_toArray, List.set_cons_zero, List.set_cons_succ]
            refine wpAnyH_take (i := 1) (oi := ({ dst := some 32, op := Go.Op.move (Go.Operand.tmp 9), type := 3, pos := "freightref8.go:107", after := #[], guard := none } : Oper)) (v := ?_) rfl (by kernel_rfl) (by kernel_rfl) (by kernel_rfl) (fun _ _ _ h => h) (Or.inl ⟨by rfl, ?_⟩) (by assumption) ?_
            rotate_left
            · (intro w hSw; (try dsimp only at hSw); go_simp; try with_reducible rfl)
            try simp only [Act.put, List.setIfInBounds_toArray, List.set_cons_zero, List.set_cons_succ]
            refine wpAnyH_take (i := 2) (oi := ({ dst := some 33, op := Go.Op.indexAddr 22 (Go.Operand.tmp 31) (Go.Operand.tmp 32), type := 0, pos := "freightref8.go:107", after := #[{ on := 0, ground := Go.Ground.data }, { on := 1, ground := Go.Ground.data }], guard := none } : Oper)) (v := ?_) rfl (by kernel_rfl) (by kernel_rfl) (by kernel_rfl) (fun _ _ _ h => h) (Or.inl ⟨by rfl, ?_⟩) (by assumption) ?_
            rotate_left
            · (intro w hSw; (try dsimp only at hSw); go_simp; try with_reducible rfl)
            try simp only [Act.put, List.setIfInBounds_toArray, List.set_cons_zero, List.set_cons_succ]
            refine wpAnyH_take (i := 3) (oi := ({ dst := some 34, op := Go.Op.fieldAddr 39 (Go.Operand.tmp 33) 0, type := 0, pos := "freightref8.go:107", after := #[{ on := 2, ground := Go.Ground.data }], guard := none } : Oper)) (v := ?_) rfl (by kernel_rfl) (by kernel_rfl) (by kernel_rfl) (fun _ _ _ h => h) (Or.inl ⟨by rfl, ?_⟩) (by assumption) ?_
            rotate_left
            · (intro w hSw; (try dsimp only at hSw); go_simp; try with_reducible rfl)
            try simp only [Act.put, List.setIfInBounds_toArray, List.set_cons_zero, List.set_cons_succ]
            refine wpAnyH_take (i := 4) (oi := ({ dst := some 35, op := Go.Op.load 37 (Go.Operand.tmp 34), type := 37, pos := "freightref8.go:107", after := #[{ on := 3, ground := Go.Ground.data }], guard := none } : Oper)) (v := .agg (List.toArray (bs y.act))) rfl (by kernel_rfl) (by kernel_rfl) (by kernel_rfl) (fun _ _ _ h => h) (yieldsIf_load_mid (by rfl) _ _ rfl _ _ rfl (bs y.act) _ (fun w hSw => (rangeAt_act hSw.1)) Try.underlying37 rfl (hi37 y.la)) (by assumption) ?_
            try simp only [Act.put, List.setIfInBounds_toArray, List.set_cons_zero, List.set_cons_succ]
            refine wpAnyH_take (i := 5) (oi := ({ dst := some 36, op := Go.Op.fieldAddr 39 (Go.Operand.tmp 3) 0, type := 0, pos := "freightref8.go:107", after := #[], guard := none } : Oper)) (v := ?_) rfl (by kernel_rfl) (by kernel_rfl) (by kernel_rfl) (fun _ _ _ h => h) (Or.inl ⟨by rfl, ?_⟩) (by assumption) ?_
            rotate_left
            · (intro w hSw; (try dsimp only at hSw); go_simp; try with_reducible rfl)
            try simp only [Act.put, List.setIfInBounds_toArray, List.set_cons_zero, List.set_cons_succ]
            refine wpAnyH_take (i := 6) (oi := ({ dst := some 37, op := Go.Op.load 37 (Go.Operand.tmp 36), type := 37, pos := "freightref8.go:107", after := #[{ on := 5, ground := Go.Ground.data }], guard := none } : Oper)) (v := .agg (List.toArray (bs x.act))) rfl (by kernel_rfl) (by kernel_rfl) (by kernel_rfl) (fun _ _ _ h => h) (yieldsIf_load_mid (by rfl) _ _ rfl _ _ rfl (bs x.act) _ (fun w hSw => (rangeAt_act hSw.2.1)) Try.underlying37 rfl (hi37 x.la)) (by assumption) ?_
            try simp only [Act.put, List.setIfInBounds_toArray, List.set_cons_zero, List.set_cons_succ]
            refine wpAnyH_ready (rs := [7]) (by kernel_rfl) (by simp) ?_
            refine (AllReadyH.cons (o := ({ dst := some 38, op := Go.Op.call { callee := Go.Callee.value (Go.Operand.func 44), args := #[Go.Operand.tmp 35, Go.Operand.tmp 37], argTypes := #[37, 37] }, type := 3, pos := "freightref8.go:107", after := #[{ on := 4, ground := Go.Ground.data }, { on := 6, ground := Go.Ground.data }], guard := none } : Oper)) rfl (fun K hK => ?_) AllReadyH.nil)
            go_simp
            (refine (ORD.out _).mono ?_; rintro e w' ⟨rfl, hk⟩)
            go_wp2_with fail
            refine hK.out _ _ ?_ (fun hHeld1 => ?_)
            · (try dsimp only); first | exact S2.step hS ((Keep.refl [] _).drew) | exact S2.step (by assumption) hk
            clear hK K
            try simp only [Act.put, List.setIfInBounds_toArray, List.set_cons_zero, List.set_cons_succ]
            refine wpAnyH_take (i := 8) (oi := ({ dst := some 10, op := Go.Op.assign (Go.Operand.tmp 38), type := 3, pos := "freightref8.go:107", after := #[{ on := 7, ground := Go.Ground.data }, { on := 7, ground := Go.Ground.chain }, { on := 0, ground := Go.Ground.phase }, { on := 1, ground := Go.Ground.phase }, { on := 2, ground := Go.Ground.phase }, { on := 3, ground := Go.Ground.phase }, { on := 4, ground := Go.Ground.phase }, { on := 5, ground := Go.Ground.phase }, { on := 6, ground := Go.Ground.phase }, { on := 7, ground := Go.Ground.phase }], guard := none } : Oper)) (v := ?_) rfl (by kernel_rfl) (by kernel_rfl) (by kernel_rfl) (fun _ _ _ h => h) (Or.inl ⟨by rfl, ?_⟩) (by assumption) ?_
            rotate_left
            · (intro w hSw; (try dsimp only at hSw); go_simp; try with_reducible rfl)
            try simp only [Act.put, List.setIfInBounds_toArray, List.set_cons_zero, List.set_cons_succ]
            refine wpAnyH_done (by kernel_rfl) ?_ _
            refine NoPanic.normal ?_
            have hR := (by assumption : S2 wr b (off + i * N) y T 0 x _); have hs9 := hs.keep hR.2.2 (by simp); have k9 := kk.trans' hR.2.2; go_wp2_with (first  | (refine wpList_load_mid rfl 39 (.tmp 3) rfl T 0 rfl x.cells _ hR.2.1 Try.underlying39 rfl (hi39 x) ?_)  | (refine wpList_load_mid rfl 39 (.tmp 54) rfl b (off + i * N) rfl y.cells _ ry6 Try.underlying39 rfl (hi39 y) ?_)  | (refine wpList_build1 rfl 22 39 (.tmp 46) rfl x.cells.toArray rfl (.agg Try.zeroCells39) 65 72 Try.underlying22 info39 (by simp [x.len]) (by omega) (by omega) ?_)  | (refine wpList_build1 rfl 22 39 (.tmp 55) rfl y.cells.toArray rfl (.agg Try.zeroCells39) 65 72 Try.underlying22 info39 (by simp [y.len]) (by omega) (by omega) ?_)  | (at_builtin; refine wpList_appendN rfl (.tmp 45) (.tmp 47) 22 rfl 39 (.agg Try.zeroCells39) 65 72 Try.underlying22 info39 zero39 (by omega) (.slice ao m co) m cs rfl (after_build hs9).1 (some ⟨_, 0, none⟩) 1 1 x.cells rfl (res_len1 x) (by simp) (after_build hs9).2.1 x.one (by simp only [maxLen]; omega) (by omega) ?_; intro a6 c6 w6 hs6 hk6 hf6; have k6 := keep_app k9 (after_build hs9 (x := x)).2.2 hk6 hf'.out; have ry6 := rangeAt_keep ryW k6 (by simp))  | (at_builtin; refine wpList_appendN rfl (.tmp 51) (.tmp 56) 22 rfl 39 (.agg Try.zeroCells39) 65 72 Try.underlying22 info39 zero39 (by omega) (.slice a6 (m + 1) c6) (m + 1) (cs ++ x.cells) rfl (after_build hs6).1 (some ⟨_, 0, none⟩) 1 1 y.cells rfl (res_len1 y) (by simp) (after_build hs6).2.1 y.one (by simp only [maxLen]; omega) (by omega) ?_; intro a7 c7 w7 hs7 hk7 hf7)  | fail); have hf6' := hf'.out.trans hf6 (by have := k9.size; have := (after_build hs9 (x := x)).2.2.size; omega); refine ⟨RwI.two (by omega) (outAt_miss HEY.out HP.out HH.out) (by symm; exact decide_eq_true (by have := HP.out; omega)) (by go_num) HCS.out.2 (by rw [HCS.out.1]; exact hs7) hf'.out hf6 hf7 (by have := k9.size; have := (after_build hs9 (x := x)).2.2.size; omega) (by have := k6.size; have := (after_build hs6 (x := y)).2.2.size; omega) (keep_app k6 (after_build hs6).2.2 hk7 hf6'), by simp [intOf]; omega⟩
        · have hc0 : 0 < CC := by rw [← hCC]; exact ord_after HO.out.1 HEY.out hp
          have hd : decide (plc l x.act < i) = true := decide_eq_true (by omega)
          have HP := Lib.hid hp
          rw [hd]
          clear hCC hd hp hlt
          go_upto_region 9 with fail
          refine wp_region_noPanic ?_
          refine wp_region_held_drew (S := S2 wr b (off + i * N) y T 0 x) (by kernel_rfl) ?_ (fun hHeld0 => ?_)
          · (try dsimp only); first | exact S2.step hS ((Keep.refl [] _).drew) | exact S2.step (by assumption) hk
          refine wpAnyH_take (i := 0) (oi := ({ dst := some 31, op := Go.Op.move (Go.Operand.tmp 0), type := 22, pos := "freightref8.go:107", after := #[], guard := none } : Oper)) (v := ?_) rfl (by kernel_rfl) (by kernel_rfl) (by kernel_rfl) (fun _ _ _ h => h) (Or.inl ⟨by rfl, ?_⟩) (by assumption) ?_
          rotate_left
          · (intro w hSw; (try dsimp only at hSw); go_simp; try with_reducible rfl)
          try simp only [Act.put, List.setIfInBounds_toArray, List.set_cons_zero, List.set_cons_succ]
          refine wpAnyH_take (i := 1) (oi := ({ dst := some 32, op := Go.Op.move (Go.Operand.tmp 9), type := 3, pos := "freightref8.go:107", after := #[], guard := none } : Oper)) (v := ?_) rfl (by kernel_rfl) (by kernel_rfl) (by kernel_rfl) (fun _ _ _ h => h) (Or.inl ⟨by rfl, ?_⟩) (by assumption) ?_
          rotate_left
          · (intro w hSw; (try dsimp only at hSw); go_simp; try with_reducible rfl)
          try simp only [Act.put, List.setIfInBounds_toArray, List.set_cons_zero, List.set_cons_succ]
          refine wpAnyH_take (i := 2) (oi := ({ dst := some 33, op := Go.Op.indexAddr 22 (Go.Operand.tmp 31) (Go.Operand.tmp 32), type := 0, pos := "freightref8.go:107", after := #[{ on := 0, ground := Go.Ground.data }, { on := 1, ground := Go.Ground.data }], guard := none } : Oper)) (v := ?_) rfl (by kernel_rfl) (by kernel_rfl) (by kernel_rfl) (fun _ _ _ h => h) (Or.inl ⟨by rfl, ?_⟩) (by assumption) ?_
          rotate_left
          · (intro w hSw; (try dsimp only at hSw); go_simp; try with_reducible rfl)
          try simp only [Act.put, List.setIfInBounds_toArray, List.set_cons_zero, List.set_cons_succ]
          refine wpAnyH_take (i := 3) (oi := ({ dst := some 34, op := Go.Op.fieldAddr 39 (Go.Operand.tmp 33) 0, type := 0, pos := "freightref8.go:107", after := #[{ on := 2, ground := Go.Ground.data }], guard := none } : Oper)) (v := ?_) rfl (by kernel_rfl) (by kernel_rfl) (by kernel_rfl) (fun _ _ _ h => h) (Or.inl ⟨by rfl, ?_⟩) (by assumption) ?_
          rotate_left
          · (intro w hSw; (try dsimp only at hSw); go_simp; try with_reducible rfl)
          try simp only [Act.put, List.setIfInBounds_toArray, List.set_cons_zero, List.set_cons_succ]
          refine wpAnyH_take (i := 4) (oi := ({ dst := some 35, op := Go.Op.load 37 (Go.Operand.tmp 34), type := 37, pos := "freightref8.go:107", after := #[{ on := 3, ground := Go.Ground.data }], guard := none } : Oper)) (v := .agg (List.toArray (bs y.act))) rfl (by kernel_rfl) (by kernel_rfl) (by kernel_rfl) (fun _ _ _ h => h) (yieldsIf_load_mid (by rfl) _ _ rfl _ _ rfl (bs y.act) _ (fun w hSw => (rangeAt_act hSw.1)) Try.underlying37 rfl (hi37 y.la)) (by assumption) ?_
          try simp only [Act.put, List.setIfInBounds_toArray, List.set_cons_zero, List.set_cons_succ]
          refine wpAnyH_take (i := 5) (oi := ({ dst := some 36, op := Go.Op.fieldAddr 39 (Go.Operand.tmp 3) 0, type := 0, pos := "freightref8.go:107", after := #[], guard := none } : Oper)) (v := ?_) rfl (by kernel_rfl) (by kernel_rfl) (by kernel_rfl) (fun _ _ _ h => h) (Or.inl ⟨by rfl, ?_⟩) (by assumption) ?_
          rotate_left
          · (intro w hSw; (try dsimp only at hSw); go_simp; try with_reducible rfl)
          try simp only [Act.put, List.setIfInBounds_toArray, List.set_cons_zero, List.set_cons_succ]
          refine wpAnyH_take (i := 6) (oi := ({ dst := some 37, op := Go.Op.load 37 (Go.Operand.tmp 36), type := 37, pos := "freightref8.go:107", after := #[{ on := 5, ground := Go.Ground.data }], guard := none } : Oper)) (v := .agg (List.toArray (bs x.act))) rfl (by kernel_rfl) (by kernel_rfl) (by kernel_rfl) (fun _ _ _ h => h) (yieldsIf_load_mid (by rfl) _ _ rfl _ _ rfl (bs x.act) _ (fun w hSw => (rangeAt_act hSw.2.1)) Try.underlying37 rfl (hi37 x.la)) (by assumption) ?_
          try simp only [Act.put, List.setIfInBounds_toArray, List.set_cons_zero, List.set_cons_succ]
          refine wpAnyH_ready (rs := [7]) (by kernel_rfl) (by simp) ?_
          refine (AllReadyH.cons (o := ({ dst := some 38, op := Go.Op.call { callee := Go.Callee.value (Go.Operand.func 44), args := #[Go.Operand.tmp 35, Go.Operand.tmp 37], argTypes := #[37, 37] }, type := 3, pos := "freightref8.go:107", after := #[{ on := 4, ground := Go.Ground.data }, { on := 6, ground := Go.Ground.data }], guard := none } : Oper)) rfl (fun K hK => ?_) AllReadyH.nil)
          go_simp
          (refine (ORD.out _).mono ?_; rintro e w' ⟨rfl, hk⟩)
          go_wp2_with fail
          refine hK.out _ _ ?_ (fun hHeld1 => ?_)
          · (try dsimp only); first | exact S2.step hS ((Keep.refl [] _).drew) | exact S2.step (by assumption) hk
          clear hK K
          try simp only [Act.put, List.setIfInBounds_toArray, List.set_cons_zero, List.set_cons_succ]
          refine wpAnyH_take (i := 8) (oi := ({ dst := some 10, op := Go.Op.assign (Go.Operand.tmp 38), type := 3, pos := "freightref8.go:107", after := #[{ on := 7, ground := Go.Ground.data }, { on := 7, ground := Go.Ground.chain }, { on := 0, ground := Go.Ground.phase }, { on := 1, ground := Go.Ground.phase }, { on := 2, ground := Go.Ground.phase }, { on := 3, ground := Go.Ground.phase }, { on := 4, ground := Go.Ground.phase }, { on := 5, ground := Go.Ground.phase }, { on := 6, ground := Go.Ground.phase }, { on := 7, ground := Go.Ground.phase }], guard := none } : Oper)) (v := ?_) rfl (by kernel_rfl) (by kernel_rfl) (by kernel_rfl) (fun _ _ _ h => h) (Or.inl ⟨by rfl, ?_⟩) (by assumption) ?_
          rotate_left
          · (intro w hSw; (try dsimp only at hSw); go_simp; try with_reducible rfl)
          try simp only [Act.put, List.setIfInBounds_toArray, List.set_cons_zero, List.set_cons_succ]
          refine wpAnyH_done (by kernel_rfl) ?_ _
          refine NoPanic.normal ?_
          have hR := (by assumption : S2 wr b (off + i * N) y T 0 x _); have hs9 := hs.keep hR.2.2 (by simp); have k9 := kk.trans' hR.2.2; go_wp2_with (first  | (refine wpList_load_mid rfl 39 (.tmp 3) rfl T 0 rfl x.cells _ hR.2.1 Try.underlying39 rfl (hi39 x) ?_)  | (refine wpList_load_mid rfl 39 (.tmp 54) rfl b (off + i * N) rfl y.cells _ hR.1 Try.underlying39 rfl (hi39 y) ?_)  | (refine wpList_build1 rfl 22 39 (.tmp 46) rfl x.cells.toArray rfl (.agg Try.zeroCells39) 65 72 Try.underlying22 info39 (by simp [x.len]) (by omega) (by omega) ?_)  | (refine wpList_build1 rfl 22 39 (.tmp 55) rfl y.cells.toArray rfl (.agg Try.zeroCells39) 65 72 Try.underlying22 info39 (by simp [y.len]) (by omega) (by omega) ?_)  | (at_builtin; refine wpList_appendN rfl (.tmp 45) (.tmp 47) 22 rfl 39 (.agg Try.zeroCells39) 65 72 Try.underlying22 info39 zero39 (by omega) (.slice ao m co) m cs rfl (after_build hs9).1 (some ⟨_, 0, none⟩) 1 1 x.cells rfl (res_len1 x) (by simp) (after_build hs9).2.1 x.one (by simp only [maxLen]; omega) (by omega) ?_; intro a6 c6 w6 hs6 hk6 hf6)  | (at_builtin; refine wpList_appendN rfl (.tmp 51) (.tmp 56) 22 rfl 39 (.agg Try.zeroCells39) 65 72 Try.underlying22 info39 zero39 (by omega) (.slice ao m co) m cs rfl (after_build hs9).1 (some ⟨_, 0, none⟩) 1 1 y.cells rfl (res_len1 y) (by simp) (after_build hs9).2.1 y.one (by simp only [maxLen]; omega) (by omega) ?_; intro a7 c7 w7 hs7 hk7 hf7)  | fail); refine ⟨RwI.one (by omega) (outAt_after HEY.out HP.out) (by symm; exact decide_eq_true (by have := HP.out; omega)) (by go_num) HCS.out.2 (by rw [HCS.out.1]; exact hs7) hf'.out hf7 (by have := k9.size; have := (after_build hs9 (x := y)).2.2.size; omega) (keep_app k9 (after_build hs9).2.2 hk7 hf'.out), by simp [intOf]; omega⟩
      · obtain rfl : i = n := by omega
        have rX := rangeAt_of_blk (BX.keep kk (by simp))
        have hEnd := @outAt_end l x
        rw [HO.out.2.2] at hEnd
        by_cases hp : plc l x.act < i
        · rw [if_pos hp] at hEnd
          have hd : decide (plc l x.act < i) = true := decide_eq_true hp
          rw [hd]
          by_cases hm : 32 < m
          · have q : (32 : Int) < m := by omega
            have HG := Lib.hid (giv_long HVF.out (by rw [← hEnd, HCS.out.2]; exact hm))
            clear hEnd hd hp hm
            go_wp2_with fail
            go_returns
            rw [HG.out.1, HG.out.2]
            exact Give.nil (kW.trans' kk)
          · have q : ¬ (32 : Int) < m := by omega
            have HG := Lib.hid (giv_yes HVF.out (by rw [← hEnd, HCS.out.2]; exact hm))
            have HE := Lib.hid hEnd
            clear hEnd hd hp hm
            go_wp2_with fail
            go_returns
            refine give_of HG.out.1 (by rw [HG.out.2, ← HE.out]; exact HCS.out.2) (by rw [HG.out.2, ← HE.out, HCS.out.1]; exact hs) ?_ (kW.trans' kk)
            exact fun b hb => by rcases hf b hb with h | h; cases h; right; have := kW.size; omega
        · rw [if_neg hp] at hEnd
          have hd : decide (plc l x.act < i) = false := decide_eq_false hp
          rw [hd]
          have k5 := kk
          have hs9 := hs
          have Hm : (withR l x).length = m + 1 := by rw [← hEnd, List.length_append, HCS.out.2]; rfl
          have HE := Lib.hid (And.intro hEnd Hm)
          clear hEnd hd hp Hm
          by_cases hm : 32 < m + 1
          · have q : (32 : Int) < m + 1 := by omega
            have HG := Lib.hid (giv_long HVF.out (by rw [HE.out.2]; exact hm))
            clear hm
            go_wp2_with (first
              | (refine wpList_load_mid rfl 39 (.tmp 3) rfl T 0 rfl x.cells _ rX Try.underlying39 rfl (hi39 x) ?_)
              | (refine wpList_build1 rfl 22 39 (.tmp 61) rfl x.cells.toArray rfl (.agg Try.zeroCells39) 65 72 Try.underlying22 info39 (by simp [x.len]) (by omega) (by omega) ?_)
              | (at_builtin; refine wpList_appendN rfl (.tmp 60) (.tmp 62) 22 rfl 39 (.agg Try.zeroCells39) 65 72 Try.underlying22 info39 zero39 (by omega) (.slice ao m co) m cs rfl (after_build hs9).1 (some ⟨_, 0, none⟩) 1 1 x.cells rfl (res_len1 x) (by simp) (after_build hs9).2.1 x.one (by simp only [maxLen]; omega) (by omega) ?_; intro a6 c6 w6 hs6 hk6 hf6)
              | fail)
            go_returns
            rw [HG.out.1, HG.out.2]
            exact Give.nil (kW.trans' (keep_app kk (after_build hs9 (x := x)).2.2 hk6 hf'.out))
          · have q : ¬ (32 : Int) < m + 1 := by omega
            have HG := Lib.hid (giv_yes HVF.out (by rw [HE.out.2]; exact hm))
            clear hm
            go_wp2_with (first
              | (refine wpList_load_mid rfl 39 (.tmp 3) rfl T 0 rfl x.cells _ rX Try.underlying39 rfl (hi39 x) ?_)
              | (refine wpList_build1 rfl 22 39 (.tmp 61) rfl x.cells.toArray rfl (.agg Try.zeroCells39) 65 72 Try.underlying22 info39 (by simp [x.len]) (by omega) (by omega) ?_)
              | (at_builtin; refine wpList_appendN rfl (.tmp 60) (.tmp 62) 22 rfl 39 (.agg Try.zeroCells39) 65 72 Try.underlying22 info39 zero39 (by omega) (.slice ao m co) m cs rfl (after_build hs9).1 (some ⟨_, 0, none⟩) 1 1 x.cells rfl (res_len1 x) (by simp) (after_build hs9).2.1 x.one (by simp only [maxLen]; omega) (by omega) ?_; intro a6 c6 w6 hs6 hk6 hf6)
              | fail)
            go_returns
            have hff := hf.trans hf6 (by have := kk.size; have := (after_build hs9 (x := x)).2.2.size; omega)
            refine give_of HG.out.1 (by rw [HG.out.2]; exact HE.out.2) (by rw [HG.out.2, ← HE.out.1, cellsOf_append, cellsOf_one, HCS.out.1]; exact hs6) ?_ (kW.trans' (keep_app kk (after_build hs9 (x := x)).2.2 hk6 hf'.out))
            exact fun b hb => by rcases hff b hb with h | h; cases h; right; have := kW.size; omega
end Go.Proofs.Ytjdkeabimcajlaa

/- Ts Wp Wh -/
import Derived.Test.YtpocegdlobnhaaaGB
import Derived.StillTailTactics
section
/- in.step: the walk. -/
set_option linter.unusedVariables false
set_option linter.unusedSimpArgs false
set_option maxRecDepth 100000
namespace Go.Proofs.Ytpocegdlobnhaaa
open Go.RowKit
open Cod (RdAt RS)
theorem two_one (x y : Int) : ∀ v ∈ [Value.int .i64 x, Value.int .i64 y], v.oneCell' = true := by simp [Value.oneCell']
theorem built95 (x y : Int) : Try.prog.built 95 [(0, .int .i64 x), (1, .int .i64 y)] = some #[.int .i64 x, .int .i64 y] := by kernel_rfl
theorem zero95 : ∀ w, (zeroValue 95).run Try.prog w = .ok (.agg #[.int .i64 0, .int .i64 0]) w := fun w => by kernel_rfl
section
variable {ops : Array Oper} {o : Oper} {a : Act} {w : World} {K : Act → World → Prop} {Q : Exit → Act → World → Prop} {E : Prop}
theorem step_alloc95 (hgd : o.guard = none) (ho : o.op = .alloc 95)
    (h : ∀ p wN, w.heap.size ≤ p → Blk wN p #[.int .i64 0, .int .i64 0] 95 → Keep [] w wN → K (a.put o.dst (.pointer (some ⟨p, 0, none⟩))) wN) : if Region.wanted o (yielded ops a.tmps) = true then Oper.wp Try.prog o a w K Q else E := by
  have hw : Region.wanted o (yielded ops a.tmps) = true := by simp [Region.wanted, hgd]
  rw [if_pos hw]
  unfold Oper.wp execOp
  simp [ho, Instr.alloc, newVar, newRow, zero95]
  exact h w.heap.size _ (Nat.le_refl _) (Blk.new _ _ _) ((Keep.refl [] w).alloc _)
end
set_option maxHeartbeats 4000000 in
theorem step_any (P : Nat) (S : List Nat) (d : List UInt8) (s : RS) (bl : Nat) (w : World) (h : RdAt w P S d s) (hb : bl ≤ 131072) (hd : d.length ≤ 131072) :
    Calls Try.prog 89 #[rdr P, .int .i64 (bl : Nat)] w (GiveT w P S d (stepO d s bl)) := by
  obtain ⟨kd, s1, e1⟩ : ∃ u v, Cod.rFixed d s 1 = (u, v) := ⟨_, _, rfl⟩
  obtain ⟨f, s2, e2⟩ : ∃ u v, Cod.rNumber d s1 = (u, v) := ⟨_, _, rfl⟩
  obtain ⟨c, s3, e3⟩ : ∃ u v, Cod.rNumber d s2 = (u, v) := ⟨_, _, rfl⟩
  obtain ⟨ys, s4, e4⟩ : ∃ u v, Cod.rText d s1 131072 = (u, v) := ⟨_, _, rfl⟩
  have hf := num_max d s1
  have hc := num_max d s2
  have hy := text_max d s1 131072
  rw [e2] at hf
  rw [e3] at hc
  rw [e4] at hy
  simp only at hf hc hy
  have HO : Hid (stepO d s bl = if kd = 1 then (if (1 ≤ c ∧ f < bl ∧ c ≤ bl - f) ∧ s3.code = 0 then some (.cp f c, s3) else none) else if kd = 2 then (if 0 < ys.length ∧ s4.code = 0 then some (.lit ys, s4) else none) else none) := Lib.hid (by
    simp only [stepO, e1, e2, e3, e4])
  have RF := Lib.hid (fun W h => by have := Cod.rfixed_any P S d s 1 W h; rw [e1] at this; exact this : ∀ W, RdAt W P S d s → Calls Try.prog 86 #[.pointer (some ⟨P, 0, none⟩), .int .i64 1] W fun e w' => e = .returned (.int .i64 (kd : Nat)) ∧ RdAt w' P S d s1 ∧ Keep [P] W w')
  have RN1 := Lib.hid (fun W h => by have := Cod.rnumber_any P S d s1 W h; rw [e2] at this; exact this : ∀ W, RdAt W P S d s1 → Calls Try.prog 87 #[.pointer (some ⟨P, 0, none⟩)] W fun e w' => e = .returned (.int .i64 (f : Nat)) ∧ RdAt w' P S d s2 ∧ Keep [P] W w')
  have RN2 := Lib.hid (fun W h => by have := Cod.rnumber_any P S d s2 W h; rw [e3] at this; exact this : ∀ W, RdAt W P S d s2 → Calls Try.prog 87 #[.pointer (some ⟨P, 0, none⟩)] W fun e w' => e = .returned (.int .i64 (c : Nat)) ∧ RdAt w' P S d s3 ∧ Keep [P] W w')
  obtain ⟨yl, hyl⟩ : ∃ n, ys.length = n := ⟨_, rfl⟩
  have RT := Lib.hid (fun W h => by
      refine (Cod.rtext_any P S d s1 131072 W h (by omega)).mono ?_
      rintro e w' ⟨a, c, h1, h2, h3, h4, h5⟩
      rw [e4] at h1 h2 h3 h4
      simp only [hyl] at h1 h2 h3
      exact ⟨a, c, h1, h2, h3, h4, h5⟩ : ∀ W, RdAt W P S d s1 → Calls Try.prog 113 #[.pointer (some ⟨P, 0, none⟩), .int .i64 131072] W fun e w' => ∃ a c, e = .returned (.slice a yl c) ∧ Sl w' 5 1 (.slice a yl c) yl (bs ys) ∧ Fr W [] (blks (.slice a yl c)) ∧ RdAt w' P S d s4 ∧ Keep [P] W w')
  clear e1 e2 e3 e4
  have hPw : P < w.heap.size := h.lt P h.self
  have k0 : Keep [] w (w.alloc (.cells #[.pointer (some ⟨P, 0, none⟩)] 140)) := (Keep.refl [] w).alloc _
  have B0 : Blk (w.alloc (.cells #[.pointer (some ⟨P, 0, none⟩)] 140)) w.heap.size #[.pointer (some ⟨P, 0, none⟩)] 140 := Blk.new _ _ _
  obtain ⟨W, hW⟩ : ∃ W, w.alloc (.cells #[.pointer (some ⟨P, 0, none⟩)] 140) = W := ⟨_, rfl⟩
  obtain ⟨R, hR⟩ : ∃ R, w.heap.size = R := ⟨_, rfl⟩
  rw [hW] at k0 B0
  rw [hR] at B0
  have hRP : R ≠ P := by omega
  have hRW := h.keep k0 (by simp)
  have HW := Lib.hid hW
  have HR := Lib.hid hR
  have c0 : W.cell? ⟨R, 0, none⟩ = some (.pointer (some ⟨P, 0, none⟩)) := B0.cell (i := 0) rfl
  have HYL := Lib.hid hyl
  clear hW hR h
  by_cases q1 : kd = 1
  · subst q1
    have HO1 : Hid (stepO d s bl = if (1 ≤ c ∧ f < bl ∧ c ≤ bl - f) ∧ s3.code = 0 then some (.cp f c, s3) else none) := Lib.hid (by rw [HO.out, if_pos rfl])
    clear HO RT
    go_enter Try.func89, Try.ntmps89
    go_upto_region 1 with fail
    rw [HW.out, HR.out]
    go_upto_region 4 with (first
      | (go_at_call 86; refine (RF.out W hRW).mono ?_; rintro e w1 ⟨rfl, hR1, k1⟩; have B1 := B0.keep k1 (by simpa using hRP); have kk := k0.mono (T := [P]) (by simp))
      | fail)
    have kc : Keep [P] w w1 := kk.trans k1 (fun b hb => Or.inl hb)
    have hRc := hR1
    have Bc := B1
    clear c0 B1 hR1 k1 kk
    have hRc := hRc.keep ((Keep.refl [] w1).drew) (by simp)
    have Bc := Bc.drew
    have kc : Keep [P] w w1.drew := kc.trans' ((Keep.refl [] w1).drew)
    go_cut [6] (fun v6 wc => ∃ p, v6 = .pointer (some ⟨p, 0, none⟩) ∧ w.heap.size ≤ p ∧ Blk wc p #[.int .i64 (f : Nat), .int .i64 (c : Nat)] 95 ∧ RdAt wc P S d s3 ∧ Blk wc R #[.pointer (some ⟨P, 0, none⟩)] 140 ∧ Keep [P] w wc)
    case first =>
      refine wp_region_noPanic ?_
      refine wp_region_held_drew (S := fun w' => w'.cell? ⟨R, 0, none⟩ = some (.pointer (some ⟨P, 0, none⟩))) (by kernel_rfl) ?_ (fun hHeld0 => ?_)
      · (try dsimp only); exact Bc.cell (i := 0) rfl
      refine wpAnyH_take (i := 0) (oi := ({ dst := some 14, op := .fieldAddr 140 (.tmp 2) 0, type := 0, pos := "apply.go:20", after := #[], guard := none } : Oper)) (v := ?_) rfl (by kernel_rfl) (by kernel_rfl) (by kernel_rfl) (fun _ _ _ h => h) (Or.inl ⟨by rfl, ?_⟩) (by assumption) ?_
      rotate_left
      · (intro w hSw; (try dsimp only at hSw); go_simp; try with_reducible rfl)
      try simp only [Act.put, List.setIfInBounds_toArray, List.set_cons_zero, List.set_cons_succ]
      refine wpAnyH_take (i := 1) (oi := ({ dst := some 15, op := .load 138 (.tmp 14), type := 138, pos := "apply.go:20", after := #[{ on := 0, ground := .data }], guard := none } : Oper)) (v := ?_) rfl (by kernel_rfl) (by kernel_rfl) (by kernel_rfl) (fun _ _ _ h => h) (Or.inl ⟨by rfl, ?_⟩) (by assumption) ?_
      rotate_left
      · (intro w hSw; (try dsimp only at hSw); go_simp; try with_reducible rfl)
      try simp only [Act.put, List.setIfInBounds_toArray, List.set_cons_zero, List.set_cons_succ]
      refine wpAnyH_take (i := 3) (oi := ({ dst := some 17, op := .fieldAddr 140 (.tmp 2) 0, type := 0, pos := "apply.go:20", after := #[], guard := none } : Oper)) (v := ?_) rfl (by kernel_rfl) (by kernel_rfl) (by kernel_rfl) (fun _ _ _ h => h) (Or.inl ⟨by rfl, ?_⟩) (by assumption) ?_
      rotate_left
      · (intro w hSw; (try dsimp only at hSw); go_simp; try with_reducible rfl)
      try simp only [Act.put, List.setIfInBounds_toArray, List.set_cons_zero, List.set_cons_succ]
      refine wpAnyH_take (i := 4) (oi := ({ dst := some 18, op := .load 138 (.tmp 17), type := 138, pos := "apply.go:20", after := #[{ on := 3, ground := .data }], guard := none } : Oper)) (v := ?_) rfl (by kernel_rfl) (by kernel_rfl) (by kernel_rfl) (fun _ _ _ h => h) (Or.inl ⟨by rfl, ?_⟩) (by assumption) ?_
      rotate_left
      · (intro w hSw; (try dsimp only at hSw); go_simp; try with_reducible rfl)
      try simp only [Act.put, List.setIfInBounds_toArray, List.set_cons_zero, List.set_cons_succ]
      refine wpAnyH_ready (rs := [2, 7]) (by kernel_rfl) (by simp) ?_
      refine (AllReadyH.cons (o := ({ dst := some 16, op := .call { callee := .value (.func 87), args := #[.tmp 15], argTypes := #[138] }, type := 3, pos := "apply.go:20", after := #[{ on := 1, ground := .data }], guard := none } : Oper)) rfl (fun K hK => ?_) (AllReadyH.cons (o := ({ dst := some 6, op := .alloc 95, type := 0, pos := "apply.go:20", after := #[], guard := none } : Oper)) rfl (fun K hK => ?_) AllReadyH.nil))
      · go_simp
        (refine (RN1.out _ hRc).mono ?_; rintro e w' ⟨rfl, hRn, kn⟩; have hRc := hRn; have kc := kc.trans kn (fun b hb => Or.inl hb); have Bc := Bc.keep kn (by simpa using hRP); (first | (have BA := BA.keep kn (by simpa using hpP)) | skip))
        go_wp2_with fail
        refine hK.out _ _ ?_ (fun hHeld1 => ?_)
        · (try dsimp only); exact Bc.cell (i := 0) rfl
        clear hK K
        try simp only [Act.put, List.setIfInBounds_toArray, List.set_cons_zero, List.set_cons_succ]
        refine wpAnyH_ready (rs := [5, 7]) (by kernel_rfl) (by simp) ?_
        refine (AllReadyH.cons (o := ({ dst := some 19, op := .call { callee := .value (.func 87), args := #[.tmp 18], argTypes := #[138] }, type := 3, pos := "apply.go:20", after := #[{ on := 4, ground := .data }, { on := 2, ground := .chain }], guard := none } : Oper)) rfl (fun K hK => ?_) (AllReadyH.cons (o := ({ dst := some 6, op := .alloc 95, type := 0, pos := "apply.go:20", after := #[], guard := none } : Oper)) rfl (fun K hK => ?_) AllReadyH.nil))
        · go_simp
          (refine (RN2.out _ hRc).mono ?_; rintro e w' ⟨rfl, hRn, kn⟩; have hRc := hRn; have kc := kc.trans kn (fun b hb => Or.inl hb); have Bc := Bc.keep kn (by simpa using hRP); (first | (have BA := BA.keep kn (by simpa using hpP)) | skip))
          go_wp2_with fail
          refine hK.out _ _ ?_ (fun hHeld2 => ?_)
          · (try dsimp only); exact Bc.cell (i := 0) rfl
          clear hK K
          try simp only [Act.put, List.setIfInBounds_toArray, List.set_cons_zero, List.set_cons_succ]
          refine wpAnyH_ready (rs := [6, 7]) (by kernel_rfl) (by simp) ?_
          refine (AllReadyH.cons (o := ({ dst := some 20, op := .build 95 #[(0, .tmp 16), (1, .tmp 19)], type := 95, pos := "apply.go:20", after := #[{ on := 2, ground := .data }, { on := 5, ground := .data }], guard := none } : Oper)) rfl (fun K hK => ?_) (AllReadyH.cons (o := ({ dst := some 6, op := .alloc 95, type := 0, pos := "apply.go:20", after := #[], guard := none } : Oper)) rfl (fun K hK => ?_) AllReadyH.nil))
          · (refine step_built2 rfl 95 (.tmp 16) (.tmp 19) rfl (.int .i64 (f : Nat)) (.int .i64 (c : Nat)) rfl rfl #[.int .i64 (f : Nat), .int .i64 (c : Nat)] (built95 _ _) ?_)
            refine hK.out _ _ ?_ (fun hHeld3 => ?_)
            · (try dsimp only); exact Bc.cell (i := 0) rfl
            clear hK K
            try simp only [Act.put, List.setIfInBounds_toArray, List.set_cons_zero, List.set_cons_succ]
            refine wpAnyH_ready (rs := [7]) (by kernel_rfl) (by simp) ?_
            refine (AllReadyH.cons (o := ({ dst := some 6, op := .alloc 95, type := 0, pos := "apply.go:20", after := #[], guard := none } : Oper)) rfl (fun K hK => ?_) AllReadyH.nil)
            (refine step_alloc95 rfl rfl ?_; intro p wN hp BA kn; have hpS : p ∉ S := (fun h => by have := hRc.lt p h; omega); have hpP : p ≠ P := (fun h => hpS (h ▸ hRc.self)); have hpR : R ≠ p := (by have := Bc.lt; omega); have hpw : w.heap.size ≤ p := Nat.le_trans kc.size hp; have hRc := hRc.keep kn (by simp); have kc := kc.trans' kn; have Bc := Bc.keep kn (by simp))
            refine hK.out _ _ ?_ (fun hHeld4 => ?_)
            · (try dsimp only); exact Bc.cell (i := 0) rfl
            clear hK K
            try simp only [Act.put, List.setIfInBounds_toArray, List.set_cons_zero, List.set_cons_succ]
            refine wpAnyH_ready (rs := [8]) (by kernel_rfl) (by simp) ?_
            refine (AllReadyH.cons (o := ({ dst := none, op := .store 95 (.tmp 6) (.tmp 20), type := 0, pos := "apply.go:20", after := #[{ on := 7, ground := .data }, { on := 6, ground := .data }, { on := 5, ground := .chain }, { on := 0, ground := .phase }, { on := 1, ground := .phase }, { on := 2, ground := .phase }, { on := 3, ground := .phase }, { on := 4, ground := .phase }, { on := 5, ground := .phase }, { on := 6, ground := .phase }, { on := 7, ground := .phase }], guard := none } : Oper)) rfl (fun K hK => ?_) AllReadyH.nil)
            (refine step_storeAll rfl 95 (.tmp 6) (.tmp 20) rfl p 95 [.int .i64 (f : Nat), .int .i64 (c : Nat)] [.int .i64 0, .int .i64 0] rfl rfl BA rfl (two_one _ _) (by kernel_rfl) ?_; intro wN BN kN; have hRc := hRc.keep kN (fun b hb hb' => by simp only [List.mem_singleton] at hb'; subst hb'; exact hpS hb); have Bc := Bc.keep kN (by simpa using hpR); have kc := kc.trans kN (fun b hb => by simp only [List.mem_singleton] at hb; subst hb; exact Or.inr hpw))
            refine hK.out _ _ ?_ (fun hHeld5 => ?_)
            · (try dsimp only); exact Bc.cell (i := 0) rfl
            clear hK K
            try simp only [Act.put, List.setIfInBounds_toArray, List.set_cons_zero, List.set_cons_succ]
            refine wpAnyH_done (by kernel_rfl) ?_ _
            refine NoPanic.normal ?_
            (go_wp2_with fail; go_meet; case rel => exact ⟨p, rfl, hpw, BN, hRc, Bc, kc⟩)
          · (refine step_alloc95 rfl rfl ?_; intro p wN hp BA kn; have hpS : p ∉ S := (fun h => by have := hRc.lt p h; omega); have hpP : p ≠ P := (fun h => hpS (h ▸ hRc.self)); have hpR : R ≠ p := (by have := Bc.lt; omega); have hpw : w.heap.size ≤ p := Nat.le_trans kc.size hp; have hRc := hRc.keep kn (by simp); have kc := kc.trans' kn; have Bc := Bc.keep kn (by simp))
            refine hK.out _ _ ?_ (fun hHeld5 => ?_)
            · (try dsimp only); exact Bc.cell (i := 0) rfl
            clear hK K
            try simp only [Act.put, List.setIfInBounds_toArray, List.set_cons_zero, List.set_cons_succ]
            refine wpAnyH_ready (rs := [6]) (by kernel_rfl) (by simp) ?_
            refine (AllReadyH.cons (o := ({ dst := some 20, op := .build 95 #[(0, .tmp 16), (1, .tmp 19)], type := 95, pos := "apply.go:20", after := #[{ on := 2, ground := .data }, { on := 5, ground := .data }], guard := none } : Oper)) rfl (fun K hK => ?_) AllReadyH.nil)
            (refine step_built2 rfl 95 (.tmp 16) (.tmp 19) rfl (.int .i64 (f : Nat)) (.int .i64 (c : Nat)) rfl rfl #[.int .i64 (f : Nat), .int .i64 (c : Nat)] (built95 _ _) ?_)
            refine hK.out _ _ ?_ (fun hHeld6 => ?_)
            · (try dsimp only); exact Bc.cell (i := 0) rfl
            clear hK K
            try simp only [Act.put, List.setIfInBounds_toArray, List.set_cons_zero, List.set_cons_succ]
            refine wpAnyH_ready (rs := [8]) (by kernel_rfl) (by simp) ?_
            refine (AllReadyH.cons (o := ({ dst := none, op := .store 95 (.tmp 6) (.tmp 20), type := 0, pos := "apply.go:20", after := #[{ on := 7, ground := .data }, { on := 6, ground := .data }, { on := 5, ground := .chain }, { on := 0, ground := .phase }, { on := 1, ground := .phase }, { on := 2, ground := .phase }, { on := 3, ground := .phase }, { on := 4, ground := .phase }, { on := 5, ground := .phase }, { on := 6, ground := .phase }, { on := 7, ground := .phase }], guard := none } : Oper)) rfl (fun K hK => ?_) AllReadyH.nil)
            (refine step_storeAll rfl 95 (.tmp 6) (.tmp 20) rfl p 95 [.int .i64 (f : Nat), .int .i64 (c : Nat)] [.int .i64 0, .int .i64 0] rfl rfl BA rfl (two_one _ _) (by kernel_rfl) ?_; intro wN BN kN; have hRc := hRc.keep kN (fun b hb hb' => by simp only [List.mem_singleton] at hb'; subst hb'; exact hpS hb); have Bc := Bc.keep kN (by simpa using hpR); have kc := kc.trans kN (fun b hb => by simp only [List.mem_singleton] at hb; subst hb; exact Or.inr hpw))
            refine hK.out _ _ ?_ (fun hHeld7 => ?_)
            · (try dsimp only); exact Bc.cell (i := 0) rfl
            clear hK K
            try simp only [Act.put, List.setIfInBounds_toArray, List.set_cons_zero, List.set_cons_succ]
            refine wpAnyH_done (by kernel_rfl) ?_ _
            refine NoPanic.normal ?_
            (go_wp2_with fail; go_meet; case rel => exact ⟨p, rfl, hpw, BN, hRc, Bc, kc⟩)
        · (refine step_alloc95 rfl rfl ?_; intro p wN hp BA kn; have hpS : p ∉ S := (fun h => by have := hRc.lt p h; omega); have hpP : p ≠ P := (fun h => hpS (h ▸ hRc.self)); have hpR : R ≠ p := (by have := Bc.lt; omega); have hpw : w.heap.size ≤ p := Nat.le_trans kc.size hp; have hRc := hRc.keep kn (by simp); have kc := kc.trans' kn; have Bc := Bc.keep kn (by simp))
          refine hK.out _ _ ?_ (fun hHeld7 => ?_)
          · (try dsimp only); exact Bc.cell (i := 0) rfl
          clear hK K
          try simp only [Act.put, List.setIfInBounds_toArray, List.set_cons_zero, List.set_cons_succ]
          refine wpAnyH_ready (rs := [5]) (by kernel_rfl) (by simp) ?_
          refine (AllReadyH.cons (o := ({ dst := some 19, op := .call { callee := .value (.func 87), args := #[.tmp 18], argTypes := #[138] }, type := 3, pos := "apply.go:20", after := #[{ on := 4, ground := .data }, { on := 2, ground := .chain }], guard := none } : Oper)) rfl (fun K hK => ?_) AllReadyH.nil)
          go_simp
          (refine (RN2.out _ hRc).mono ?_; rintro e w' ⟨rfl, hRn, kn⟩; have hRc := hRn; have kc := kc.trans kn (fun b hb => Or.inl hb); have Bc := Bc.keep kn (by simpa using hRP); (first | (have BA := BA.keep kn (by simpa using hpP)) | skip))
          go_wp2_with fail
          refine hK.out _ _ ?_ (fun hHeld8 => ?_)
          · (try dsimp only); exact Bc.cell (i := 0) rfl
          clear hK K
          try simp only [Act.put, List.setIfInBounds_toArray, List.set_cons_zero, List.set_cons_succ]
          refine wpAnyH_ready (rs := [6]) (by kernel_rfl) (by simp) ?_
          refine (AllReadyH.cons (o := ({ dst := some 20, op := .build 95 #[(0, .tmp 16), (1, .tmp 19)], type := 95, pos := "apply.go:20", after := #[{ on := 2, ground := .data }, { on := 5, ground := .data }], guard := none } : Oper)) rfl (fun K hK => ?_) AllReadyH.nil)
          (refine step_built2 rfl 95 (.tmp 16) (.tmp 19) rfl (.int .i64 (f : Nat)) (.int .i64 (c : Nat)) rfl rfl #[.int .i64 (f : Nat), .int .i64 (c : Nat)] (built95 _ _) ?_)
          refine hK.out _ _ ?_ (fun hHeld9 => ?_)
          · (try dsimp only); exact Bc.cell (i := 0) rfl
          clear hK K
          try simp only [Act.put, List.setIfInBounds_toArray, List.set_cons_zero, List.set_cons_succ]
          refine wpAnyH_ready (rs := [8]) (by kernel_rfl) (by simp) ?_
          refine (AllReadyH.cons (o := ({ dst := none, op := .store 95 (.tmp 6) (.tmp 20), type := 0, pos := "apply.go:20", after := #[{ on := 7, ground := .data }, { on := 6, ground := .data }, { on := 5, ground := .chain }, { on := 0, ground := .phase }, { on := 1, ground := .phase }, { on := 2, ground := .phase }, { on := 3, ground := .phase }, { on := 4, ground := .phase }, { on := 5, ground := .phase }, { on := 6, ground := .phase }, { on := 7, ground := .phase }], guard := none } : Oper)) rfl (fun K hK => ?_) AllReadyH.nil)
          (refine step_storeAll rfl 95 (.tmp 6) (.tmp 20) rfl p 95 [.int .i64 (f : Nat), .int .i64 (c : Nat)] [.int .i64 0, .int .i64 0] rfl rfl BA rfl (two_one _ _) (by kernel_rfl) ?_; intro wN BN kN; have hRc := hRc.keep kN (fun b hb hb' => by simp only [List.mem_singleton] at hb'; subst hb'; exact hpS hb); have Bc := Bc.keep kN (by simpa using hpR); have kc := kc.trans kN (fun b hb => by simp only [List.mem_singleton] at hb; subst hb; exact Or.inr hpw))
          refine hK.out _ _ ?_ (fun hHeld10 => ?_)
          · (try dsimp only); exact Bc.cell (i := 0) rfl
          clear hK K
          try simp only [Act.put, List.setIfInBounds_toArray, List.set_cons_zero, List.set_cons_succ]
          refine wpAnyH_done (by kernel_rfl) ?_ _
          refine NoPanic.normal ?_
          (go_wp2_with fail; go_meet; case rel => exact ⟨p, rfl, hpw, BN, hRc, Bc, kc⟩)
      · (refine step_alloc95 rfl rfl ?_; intro p wN hp BA kn; have hpS : p ∉ S := (fun h => by have := hRc.lt p h; omega); have hpP : p ≠ P := (fun h => hpS (h ▸ hRc.self)); have hpR : R ≠ p := (by have := Bc.lt; omega); have hpw : w.heap.size ≤ p := Nat.le_trans kc.size hp; have hRc := hRc.keep kn (by simp); have kc := kc.trans' kn; have Bc := Bc.keep kn (by simp))
        refine hK.out _ _ ?_ (fun hHeld10 => ?_)
        · (try dsimp only); exact Bc.cell (i := 0) rfl
        clear hK K
        try simp only [Act.put, List.setIfInBounds_toArray, List.set_cons_zero, List.set_cons_succ]
        refine wpAnyH_ready (rs := [2]) (by kernel_rfl) (by simp) ?_
        refine (AllReadyH.cons (o := ({ dst := some 16, op := .call { callee := .value (.func 87), args := #[.tmp 15], argTypes := #[138] }, type := 3, pos := "apply.go:20", after := #[{ on := 1, ground := .data }], guard := none } : Oper)) rfl (fun K hK => ?_) AllReadyH.nil)
        go_simp
        (refine (RN1.out _ hRc).mono ?_; rintro e w' ⟨rfl, hRn, kn⟩; have hRc := hRn; have kc := kc.trans kn (fun b hb => Or.inl hb); have Bc := Bc.keep kn (by simpa using hRP); (first | (have BA := BA.keep kn (by simpa using hpP)) | skip))
        go_wp2_with fail
        refine hK.out _ _ ?_ (fun hHeld11 => ?_)
        · (try dsimp only); exact Bc.cell (i := 0) rfl
        clear hK K
        try simp only [Act.put, List.setIfInBounds_toArray, List.set_cons_zero, List.set_cons_succ]
        refine wpAnyH_ready (rs := [5]) (by kernel_rfl) (by simp) ?_
        refine (AllReadyH.cons (o := ({ dst := some 19, op := .call { callee := .value (.func 87), args := #[.tmp 18], argTypes := #[138] }, type := 3, pos := "apply.go:20", after := #[{ on := 4, ground := .data }, { on := 2, ground := .chain }], guard := none } : Oper)) rfl (fun K hK => ?_) AllReadyH.nil)
        go_simp
        (refine (RN2.out _ hRc).mono ?_; rintro e w' ⟨rfl, hRn, kn⟩; have hRc := hRn; have kc := kc.trans kn (fun b hb => Or.inl hb); have Bc := Bc.keep kn (by simpa using hRP); (first | (have BA := BA.keep kn (by simpa using hpP)) | skip))
        go_wp2_with fail
        refine hK.out _ _ ?_ (fun hHeld12 => ?_)
        · (try dsimp only); exact Bc.cell (i := 0) rfl
        clear hK K
        try simp only [Act.put, List.setIfInBounds_toArray, List.set_cons_zero, List.set_cons_succ]
        refine wpAnyH_ready (rs := [6]) (by kernel_rfl) (by simp) ?_
        refine (AllReadyH.cons (o := ({ dst := some 20, op := .build 95 #[(0, .tmp 16), (1, .tmp 19)], type := 95, pos := "apply.go:20", after := #[{ on := 2, ground := .data }, { on := 5, ground := .data }], guard := none } : Oper)) rfl (fun K hK => ?_) AllReadyH.nil)
        (refine step_built2 rfl 95 (.tmp 16) (.tmp 19) rfl (.int .i64 (f : Nat)) (.int .i64 (c : Nat)) rfl rfl #[.int .i64 (f : Nat), .int .i64 (c : Nat)] (built95 _ _) ?_)
        refine hK.out _ _ ?_ (fun hHeld13 => ?_)
        · (try dsimp only); exact Bc.cell (i := 0) rfl
        clear hK K
        try simp only [Act.put, List.setIfInBounds_toArray, List.set_cons_zero, List.set_cons_succ]
        refine wpAnyH_ready (rs := [8]) (by kernel_rfl) (by simp) ?_
        refine (AllReadyH.cons (o := ({ dst := none, op := .store 95 (.tmp 6) (.tmp 20), type := 0, pos := "apply.go:20", after := #[{ on := 7, ground := .data }, { on := 6, ground := .data }, { on := 5, ground := .chain }, { on := 0, ground := .phase }, { on := 1, ground := .phase }, { on := 2, ground := .phase }, { on := 3, ground := .phase }, { on := 4, ground := .phase }, { on := 5, ground := .phase }, { on := 6, ground := .phase }, { on := 7, ground := .phase }], guard := none } : Oper)) rfl (fun K hK => ?_) AllReadyH.nil)
        (refine step_storeAll rfl 95 (.tmp 6) (.tmp 20) rfl p 95 [.int .i64 (f : Nat), .int .i64 (c : Nat)] [.int .i64 0, .int .i64 0] rfl rfl BA rfl (two_one _ _) (by kernel_rfl) ?_; intro wN BN kN; have hRc := hRc.keep kN (fun b hb hb' => by simp only [List.mem_singleton] at hb'; subst hb'; exact hpS hb); have Bc := Bc.keep kN (by simpa using hpR); have kc := kc.trans kN (fun b hb => by simp only [List.mem_singleton] at hb; subst hb; exact Or.inr hpw))
        refine hK.out _ _ ?_ (fun hHeld14 => ?_)
        · (try dsimp only); exact Bc.cell (i := 0) rfl
        clear hK K
        try simp only [Act.put, List.setIfInBounds_toArray, List.set_cons_zero, List.set_cons_succ]
        refine wpAnyH_done (by kernel_rfl) ?_ _
        refine NoPanic.normal ?_
        (go_wp2_with fail; go_meet; case rel => exact ⟨p, rfl, hpw, BN, hRc, Bc, kc⟩)
    case rest =>
      obtain ⟨p, rfl, hpw, BN, hRc, Bc, kc⟩ := hcut
      clear RF RN1 RN2
      have c0 := Bc.cell (i := 0) rfl
      have g0 : wc.cell? ⟨p, 0, none⟩ = some (.int .i64 (f : Nat)) := BN.cell (i := 0) rfl
      have g1 : wc.cell? ⟨p, 1, none⟩ = some (.int .i64 (c : Nat)) := BN.cell (i := 1) rfl
      by_cases t1 : 1 ≤ c
      case neg =>
        have u1 : decide ((1 : Int) ≤ c) = false := decide_eq_false (by omega)
        have HN := Lib.hid (show stepO d s bl = none by rw [HO1.out]; exact if_neg (fun h => by exact t1 h.1.1))
        clear hf hc hb HO1
        go_wp2_with (first
          | (go_at_call 85; refine (ask_no P S d s3 false _ hRc (Or.inl rfl)).mono ?_; rintro e w3 ⟨rfl, k3⟩)
          | fail)
        refine ⟨rfl, kc.trans' k3, ?_⟩
        rw [HN.out]
      have u1 : decide ((1 : Int) ≤ c) = true := decide_eq_true (by omega)
      by_cases t2 : f < bl
      case neg =>
        have u2 : decide ((f : Int) < bl) = false := decide_eq_false (by omega)
        have HN := Lib.hid (show stepO d s bl = none by rw [HO1.out]; exact if_neg (fun h => by exact t2 h.1.2.1))
        clear hf hc hb HO1
        go_wp2_with (first
          | (go_at_call 85; refine (ask_no P S d s3 false _ hRc (Or.inl rfl)).mono ?_; rintro e w3 ⟨rfl, k3⟩)
          | fail)
        refine ⟨rfl, kc.trans' k3, ?_⟩
        rw [HN.out]
      have u2 : decide ((f : Int) < bl) = true := decide_eq_true (by omega)
      have u4 : IntKind.i64.wrap ((bl : Int) - f) = (bl : Int) - f := IntWalk.i64_in _ (by omega)
      by_cases t3 : c ≤ bl - f
      case neg =>
        have u3 : decide ((c : Int) ≤ (bl : Int) - f) = false := decide_eq_false (by omega)
        have HN := Lib.hid (show stepO d s bl = none by rw [HO1.out]; exact if_neg (fun h => by exact t3 h.1.2.2))
        clear hf hc hb HO1
        go_wp2_with (first
          | (go_at_call 85; refine (ask_no P S d s3 false _ hRc (Or.inl rfl)).mono ?_; rintro e w3 ⟨rfl, k3⟩)
          | fail)
        refine ⟨rfl, kc.trans' k3, ?_⟩
        rw [HN.out]
      have u3 : decide ((c : Int) ≤ (bl : Int) - f) = true := decide_eq_true (by omega)
      by_cases t4 : s3.code = 0
      case neg =>
        have HN := Lib.hid (show stepO d s bl = none by rw [HO1.out]; exact if_neg (fun h => t4 h.2))
        have T4 := Lib.hid t4
        clear HO1 t4
        go_wp2_with (first
          | (go_at_call 85; refine (ask_no P S d s3 true _ hRc (Or.inr T4.out)).mono ?_; rintro e w3 ⟨rfl, k3⟩)
          | fail)
        refine ⟨rfl, kc.trans' k3, ?_⟩
        rw [HN.out]
      have HN := Lib.hid (show stepO d s bl = some (.cp f c, s3) by rw [HO1.out]; exact if_pos ⟨⟨t1, t2, t3⟩, t4⟩)
      have T4 := Lib.hid t4
      clear HO1 t4
      go_wp2_with (first
        | (go_at_call 85; refine (ask_yes P S d s3 _ hRc T4.out).mono ?_; rintro e w3 ⟨rfl, k3⟩; have g0' := (BN.keep k3 (by simp)).cell (i := 0) rfl; have g1' := (BN.keep k3 (by simp)).cell (i := 1) rfl)
        | fail)
      go_returns
      refine ⟨kc.trans' k3, ?_⟩
      rw [HN.out]
      exact ⟨_, rfl, rfl, hRc.keep k3 (by simp), (by intro b hb; cases hb), by intro b hb; cases hb⟩
  have q2 : ((kd : Int) == 1) = false := by simp; omega
  by_cases q3 : kd = 2
  case neg =>
    have q4 : ((kd : Int) == 2) = false := by simp; omega
    have HN := Lib.hid (show stepO d s bl = none by rw [HO.out, if_neg q1, if_neg q3])
    clear HO q1 q3 RN1 RN2 RT
    go_enter Try.func89, Try.ntmps89
    go_upto_region 1 with fail
    rw [HW.out, HR.out]
    go_wp2_with (first
      | (go_at_call 86; refine (RF.out W hRW).mono ?_; rintro e w1 ⟨rfl, hR1, k1⟩)
      | fail)
    refine ⟨rfl, (k0.mono (T := [P]) (by simp)).trans k1 (fun b hb => Or.inl hb), ?_⟩
    rw [HN.out]
    rfl
  subst q3
  have HO1 : Hid (stepO d s bl = if 0 < yl ∧ s4.code = 0 then some (.lit ys, s4) else none) := Lib.hid (by rw [HO.out, if_neg q1, if_pos rfl, HYL.out])
  clear HO q1 RN1 RN2
  go_enter Try.func89, Try.ntmps89
  go_upto_region 1 with fail
  rw [HW.out, HR.out]
  go_upto_region 8 with (first
    | (go_at_call 86; refine (RF.out W hRW).mono ?_; rintro e w1 ⟨rfl, hR1, k1⟩; have B1 := B0.keep k1 (by simpa using hRP); have c1 := B1.cell (i := 0) rfl)
    | fail)
  have kc : Keep [P] w w1 := (k0.mono (T := [P]) (by simp)).trans k1 (fun b hb => Or.inl hb)
  clear c0 k1
  go_upto_region 9 with (first
    | (go_at_call 113; refine (RT.out w1 hR1).mono ?_; rintro e w2 ⟨a2, c2, rfl, hs2, hf2, hR2, k2⟩; have B2 := B1.keep k2 (by simpa using hRP); have g2 := (B2.alloc (.cells #[.slice a2 yl c2] 97)).cell (i := 0) rfl)
    | fail)
  clear c1
  have kc2 : Keep [P] w w2 := kc.trans k2 (fun b hb => Or.inl hb)
  have BX : Blk (w2.alloc (.cells #[.slice a2 yl c2] 97)) w2.heap.size #[.slice a2 yl c2] 97 := Blk.new _ _ _
  have kx : Keep [] w2 (w2.alloc (.cells #[.slice a2 yl c2] 97)) := (Keep.refl [] w2).alloc _
  obtain ⟨w3, hw3⟩ : ∃ W, w2.alloc (.cells #[.slice a2 yl c2] 97) = W := ⟨_, rfl⟩
  obtain ⟨px, hpx⟩ : ∃ P, w2.heap.size = P := ⟨_, rfl⟩
  rw [hw3] at BX kx g2 ⊢
  rw [hpx] at BX ⊢
  have kc3 := kc2.trans' kx
  have hR3 := hR2.keep kx (by simp)
  have hs3 := hs2.keep kx (by simp)
  have cx := BX.cell (i := 0) rfl
  have hf3 : Fr w [] (blks (.slice a2 yl c2)) := hf2.le kc.size
  clear hw3 hpx kx hR2 hs2 hf2 k2 B2
  by_cases t1 : 0 < yl
  case neg =>
    have u1 : decide ((0 : Int) < yl) = false := decide_eq_false (by omega)
    have HN := Lib.hid (show stepO d s bl = none by rw [HO1.out]; exact if_neg (fun h => t1 h.1))
    clear HO1
    go_wp2_with (first
      | (go_at_call 85; refine (ask_no P S d s4 false _ hR3 (Or.inl rfl)).mono ?_; rintro e w4 ⟨rfl, k4⟩)
      | fail)
    refine ⟨rfl, kc3.trans' k4, ?_⟩
    rw [HN.out]
  have u1 : decide ((0 : Int) < yl) = true := decide_eq_true (by omega)
  by_cases t4 : s4.code = 0
  case neg =>
    have HN := Lib.hid (show stepO d s bl = none by rw [HO1.out]; exact if_neg (fun h => t4 h.2))
    have T4 := Lib.hid t4
    clear HO1 t4
    go_wp2_with (first
      | (go_at_call 85; refine (ask_no P S d s4 true _ hR3 (Or.inr T4.out)).mono ?_; rintro e w4 ⟨rfl, k4⟩)
      | fail)
    refine ⟨rfl, kc3.trans' k4, ?_⟩
    rw [HN.out]
  have HN := Lib.hid (show stepO d s bl = some (.lit ys, s4) by rw [HO1.out]; exact if_pos ⟨t1, t4⟩)
  have T4 := Lib.hid t4
  clear HO1 t4
  go_wp2_with (first
    | (go_at_call 85; refine (ask_yes P S d s4 _ hR3 T4.out).mono ?_; rintro e w4 ⟨rfl, k4⟩; have cx' := (BX.keep k4 (by simp)).cell (i := 0) rfl)
    | fail)
  go_returns
  have hs4 := hs3.keep k4 (by simp)
  refine ⟨kc3.trans' k4, ?_⟩
  rw [HN.out]
  have hl := HYL.out
  exact ⟨_, rfl, ⟨a2, yl, c2, rfl, ⟨hl, hs4.use.2.2.1, hs4.use.2.2.2.1, hs4.use.2.1, by have := hs4.use.2.2.2.2; simp only [maxLen] at this; omega, by omega⟩⟩, hR3.keep k4 (by simp), (by show Fr w [] (stb (.iface 97 (.agg #[.slice a2 yl c2]))); rw [stb_lit]; exact hf3), by show ∀ b ∈ stb (.iface 97 (.agg #[.slice a2 yl c2])), _; rw [stb_lit]; exact hs4.lt⟩
end Go.Proofs.Ytpocegdlobnhaaa
end
section
/- What a delta says: in memory, and as a reader takes it (plain). -/
set_option linter.unusedVariables false
set_option linter.unusedSimpArgs false
set_option maxRecDepth 100000
namespace Go.Proofs.Ytpocegdlobnhaaa
open Go.RowKit
open Cod (RdAt RS)
set_option maxHeartbeats 1000000 in
theorem len95 (f c sz : Nat) (w : World) (hc : c ≤ 2147483647) (hs : sz ≤ 4096) : Calls Try.prog 139 #[.agg #[.int .i64 (f : Nat), .int .i64 (c : Nat)], .int .i64 (sz : Nat)] w fun e w' => e = .returned (.int .i64 ((c * sz : Nat) : Int)) ∧ Keep [] w w' := by
  have k0 : Keep [] w (w.alloc (.cells #[.int .i64 (f : Nat), .int .i64 (c : Nat)] 95)) := (Keep.refl [] w).alloc _
  have hp : c * sz ≤ 2147483647 * 4096 := Nat.mul_le_mul hc hs
  obtain ⟨p, hpp⟩ : ∃ p, c * sz = p := ⟨_, rfl⟩
  rw [hpp] at hp ⊢
  have e0 : (c : Int) * sz = p := by rw [← hpp]; push_cast; rfl
  have e1 : IntKind.i64.wrap (p : Int) = p := IntWalk.i64_in _ (by omega)
  clear hpp hc hs
  go_enter Try.func139, Try.ntmps139
  go_wp2_with fail
  go_returns
  exact ⟨rfl, k0⟩
set_option maxHeartbeats 1000000 in
theorem len97 (a : Option Addr) (n c sz : Nat) (w : World) : Calls Try.prog 140 #[.agg #[.slice a n c], .int .i64 (sz : Nat)] w fun e w' => e = .returned (.int .i64 (n : Nat)) ∧ Keep [] w w' := by
  have k0 : Keep [] w (w.alloc (.cells #[.slice a n c] 97)) := (Keep.refl [] w).alloc _
  go_enter Try.func140, Try.ntmps140
  go_wp2_with fail
  go_returns
  exact ⟨rfl, k0⟩
/-- What a delta says. -/
structure Dl where
  width : Nat
  size : Nat
  length : Nat
  base : List UInt8
  target : List UInt8
  total : Nat
  steps : List StepP
  lb : base.length = 32
  lt : target.length = 32
def Dl.cells (x : Dl) (a : Option Addr) (n c : Nat) : List Value := .int .i64 (x.width : Nat) :: .int .i64 (x.size : Nat) :: .int .i64 (x.length : Nat) :: (bs x.base ++ (bs x.target ++ [.int .i64 (x.total : Nat), .slice a n c]))
theorem Dl.len (x : Dl) (a : Option Addr) (n c : Nat) : (x.cells a n c).length = 69 := by simp [Dl.cells, x.lb, x.lt]
theorem Dl.one (x : Dl) (a : Option Addr) (n c : Nat) : ∀ v ∈ x.cells a n c, v.oneCell' = true := by
  intro v hv
  simp only [Dl.cells, List.mem_cons, List.mem_append, List.not_mem_nil, or_false] at hv
  rcases hv with rfl | rfl | rfl | h | h | rfl | rfl
  · rfl
  · rfl
  · rfl
  · exact bs_one _ v h
  · exact bs_one _ v h
  · rfl
  · rfl
theorem hi89 (x : Dl) (a : Option Addr) (n c : Nat) : (Try.prog.info? 89).map (·.size) = some (x.cells a n c).length := by rw [x.len]; kernel_rfl
section
variable {x : Dl} {a : Option Addr} {n c : Nat} {w : World} {b : Nat}
theorem dl_t (j : Nat) : (x.cells a n c)[67 + j]? = ([Value.int .i64 (x.total : Nat), .slice a n c] : List Value)[j]? := by
  rw [show 67 + j = (32 + (32 + j)) + 1 + 1 + 1 by omega, Dl.cells, List.getElem?_cons_succ, List.getElem?_cons_succ, List.getElem?_cons_succ, List.getElem?_append_right (by rw [bs_length, x.lb]; omega), List.getElem?_append_right (by rw [bs_length, bs_length, x.lb, x.lt]; omega), bs_length, bs_length, x.lb, x.lt]
  congr 1; omega
theorem dl_width (h : Blk w b (x.cells a n c).toArray 89) : w.cell? ⟨b, 0, none⟩ = some (.int .i64 (x.width : Nat)) := h.cell rfl
theorem dl_size (h : Blk w b (x.cells a n c).toArray 89) : w.cell? ⟨b, 1, none⟩ = some (.int .i64 (x.size : Nat)) := h.cell rfl
theorem dl_length (h : Blk w b (x.cells a n c).toArray 89) : w.cell? ⟨b, 2, none⟩ = some (.int .i64 (x.length : Nat)) := h.cell rfl
theorem dl_total (h : Blk w b (x.cells a n c).toArray 89) : w.cell? ⟨b, 67, none⟩ = some (.int .i64 (x.total : Nat)) := h.cell (by rw [List.getElem?_toArray]; exact dl_t 0)
theorem dl_steps (h : Blk w b (x.cells a n c).toArray 89) : w.cell? ⟨b, 68, none⟩ = some (.slice a n c) := h.cell (by rw [List.getElem?_toArray]; exact dl_t 1)
theorem dl_base (h : Blk w b (x.cells a n c).toArray 89) : w.rangeAt b 3 (bs x.base) := fun j v hv => by
  have hj := (List.getElem?_eq_some_iff.1 hv).1
  refine h.cell ?_
  rw [List.getElem?_toArray, show 3 + j = j + 1 + 1 + 1 by omega, Dl.cells, List.getElem?_cons_succ, List.getElem?_cons_succ, List.getElem?_cons_succ, List.getElem?_append_left hj]
  exact hv
theorem dl_target (h : Blk w b (x.cells a n c).toArray 89) : w.rangeAt b 35 (bs x.target) := fun j v hv => by
  have hj := (List.getElem?_eq_some_iff.1 hv).1
  refine h.cell ?_
  rw [List.getElem?_toArray, show 35 + j = (32 + j) + 1 + 1 + 1 by omega, Dl.cells, List.getElem?_cons_succ, List.getElem?_cons_succ, List.getElem?_cons_succ, List.getElem?_append_right (by rw [bs_length, x.lb]; omega), bs_length, x.lb, Nat.add_sub_cancel_left, List.getElem?_append_left hj]
  exact hv
theorem dl_base_set {ys : List UInt8} (hy : ys.length = 32) (h : Blk w b (x.cells a n c).toArray 89) :
    w.there b 3 32 ∧ Blk (w.setCells b 3 (bs ys)) b ((Dl.mk x.width x.size x.length ys x.target x.total x.steps hy x.lt).cells a n c).toArray 89 ∧ Keep [b] w (w.setCells b 3 (bs ys)) := by
  have := setCells_row (vs := bs ys) (P := [.int .i64 (x.width : Nat), .int .i64 (x.size : Nat), .int .i64 (x.length : Nat)]) (M := bs x.base) (S := bs x.target ++ [.int .i64 (x.total : Nat), .slice a n c]) (o := 3) h rfl rfl (by rw [bs_length, bs_length, hy, x.lb]) (bs_one ys)
  rw [bs_length, hy] at this
  exact this
theorem dl_target_set {ys : List UInt8} (hy : ys.length = 32) (h : Blk w b (x.cells a n c).toArray 89) :
    w.there b 35 32 ∧ Blk (w.setCells b 35 (bs ys)) b ((Dl.mk x.width x.size x.length x.base ys x.total x.steps x.lb hy).cells a n c).toArray 89 ∧ Keep [b] w (w.setCells b 35 (bs ys)) := by
  have := setCells_row (vs := bs ys) (P := .int .i64 (x.width : Nat) :: .int .i64 (x.size : Nat) :: .int .i64 (x.length : Nat) :: bs x.base) (M := bs x.target) (S := [.int .i64 (x.total : Nat), .slice a n c]) (o := 35) h (by simp [Dl.cells]) (by simp [bs_length, x.lb]) (by rw [bs_length, bs_length, hy, x.lt]) (bs_one ys)
  rw [bs_length, hy] at this
  simpa [Dl.cells] using this
theorem dl_total_set (t : Nat) (h : Blk w b (x.cells a n c).toArray 89) : Blk (w.setCell ⟨b, 67, none⟩ (.int .i64 (t : Nat))) b ((Dl.mk x.width x.size x.length x.base x.target t x.steps x.lb x.lt).cells a n c).toArray 89 := by
  have hh := h.set 67 (.int .i64 (t : Nat))
  have e : (x.cells a n c).toArray.setIfInBounds 67 (.int .i64 (t : Nat)) = ((Dl.mk x.width x.size x.length x.base x.target t x.steps x.lb x.lt).cells a n c).toArray := by
    apply Array.ext'
    rw [Array.toList_setIfInBounds]
    show (Dl.cells x a n c).set ((32 + 32) + 1 + 1 + 1) _ = _
    rw [Dl.cells, List.set_cons_succ, List.set_cons_succ, List.set_cons_succ, List.set_append_right _ _ (by rw [bs_length, x.lb]; omega), bs_length, x.lb, List.set_append_right _ _ (by rw [bs_length, x.lt]; omega), bs_length, x.lt]
    rfl
  rwa [e] at hh
theorem dl_steps_set (a' : Option Addr) (n' c' : Nat) (h : Blk w b (x.cells a n c).toArray 89) : Blk (w.setCell ⟨b, 68, none⟩ (.slice a' n' c')) b (x.cells a' n' c').toArray 89 := by
  have hh := h.set 68 (.slice a' n' c')
  have e : (x.cells a n c).toArray.setIfInBounds 68 (.slice a' n' c') = (x.cells a' n' c').toArray := by
    apply Array.ext'
    rw [Array.toList_setIfInBounds]
    show (Dl.cells x a n c).set ((32 + 33) + 1 + 1 + 1) _ = _
    rw [Dl.cells, List.set_cons_succ, List.set_cons_succ, List.set_cons_succ, List.set_append_right _ _ (by rw [bs_length, x.lb]; omega), bs_length, x.lb, List.set_append_right _ _ (by rw [bs_length, x.lt]; omega), bs_length, x.lt]
    rfl
  rwa [e] at hh
end
def zeroD : Dl := ⟨0, 0, 0, List.replicate 32 0, List.replicate 32 0, 0, [], by simp, by simp⟩
theorem built_dl3 (wd sz ln : Nat) : Try.prog.built 89 [(0, .int .i64 (wd : Nat)), (1, .int .i64 (sz : Nat)), (2, .int .i64 (ln : Nat))] = some ((Dl.mk wd sz ln (List.replicate 32 0) (List.replicate 32 0) 0 [] (by simp) (by simp)).cells none 0 0).toArray := by kernel_rfl
/-- The instructions, one behind the other; their length; where the reader stands. -/
def stepsO (d : List UInt8) (bl sz tot : Nat) (s0 : RS) : Nat → Option (List StepP × Nat × RS)
  | 0 => some ([], 0, s0)
  | k + 1 => match stepsO d bl sz tot s0 k with
    | none => none
    | some (l, m, s) => match stepO d s bl with
      | none => none
      | some (x, s') => if m + x.len sz ≤ tot ∧ s'.code = 0 then some (l ++ [x], m + x.len sz, s') else none
theorem stepsO_no {d : List UInt8} {bl sz tot : Nat} {s0 : RS} {k n : Nat} (h : stepsO d bl sz tot s0 k = none) (hn : k ≤ n) : stepsO d bl sz tot s0 n = none := by
  induction n with
  | zero => obtain rfl : k = 0 := by omega
            exact h
  | succ n ih =>
    by_cases e : k = n + 1
    · rw [← e]; exact h
    · rw [stepsO, ih (by omega)]
theorem stepsO_len {d : List UInt8} {bl sz tot : Nat} {s0 s : RS} : ∀ {k m : Nat} {l : List StepP}, stepsO d bl sz tot s0 k = some (l, m, s) → l.length = k ∧ (m ≤ tot ∨ k = 0 ∧ m = 0) := by
  intro k
  induction k generalizing s with
  | zero => intro m l h; simp only [stepsO, Option.some.injEq, Prod.mk.injEq] at h; rw [← h.1, ← h.2.1]; exact ⟨rfl, Or.inr ⟨rfl, rfl⟩⟩
  | succ k ih =>
    intro m l h
    rw [stepsO] at h
    cases hm : stepsO d bl sz tot s0 k with
    | none => rw [hm] at h; cases h
    | some q =>
      obtain ⟨l', m', s'⟩ := q
      rw [hm] at h
      simp only at h
      split at h
      · cases h
      · split at h
        · rename_i h3
          simp only [Option.some.injEq, Prod.mk.injEq] at h
          rw [← h.1, ← h.2.1, List.length_append, (ih hm).1]
          exact ⟨rfl, Or.inl h3.1⟩
        · cases h
/-- What whole takes of what stands ahead of the sum. -/
def dlB (d : List UInt8) : Option Dl :=
  if (Cod.rFixed d ⟨0, 0, 0⟩ 1).1 = 68 ∧ (hdS d).code = 0 then
    if (okW (hdW d).1 && okS (hdZ d).1 && decide ((hdL d).1 ≤ 131072)) = true ∧ (hdL d).2.code = 0 then
      let r5 := Cod.rRaw d (hdL d).2 (hdW d).1
      let r6 := Cod.rNumber d r5.2
      let r7 := Cod.rRaw d r6.2 (hdW d).1
      let r8 := Cod.rNumber d r7.2
      if (decide (r6.1 ≤ 131072) && decide (r8.1 ≤ 2048)) = true ∧ r8.2.code = 0 then
        match stepsO d ((hdL d).1 / (hdZ d).1) (hdZ d).1 r6.1 r8.2 r8.1 with
        | none => none
        | some (l, m, s) => if (decide (m = r6.1) && decide (Cod.rLeft d s = 0)) = true ∧ s.code = 0 then some ⟨(hdW d).1, (hdZ d).1, (hdL d).1, padT r5.1, padT r7.1, r6.1, l, padT_len _, padT_len _⟩ else none
      else none
    else none
  else none
def dlO (d : List UInt8) : Option Dl := if ckO d = true then dlB (d.take (d.length - 4)) else none
/-- What whole gives. -/
def GiveD (w : World) (r : Option Dl) (e : Ending) (w' : World) : Prop :=
  Keep [] w w' ∧ match r with
  | none => ∃ s a n c, e = .returned (.tuple #[.agg (Dl.cells s a n c).toArray, .bool false])
  | some x => ∃ a n c vs, e = .returned (.tuple #[.agg (x.cells a n c).toArray, .bool true]) ∧ x.steps.length = n ∧ Sl w' 93 1 (.slice a n c) n vs ∧ StL w' vs x.steps ∧ Fr w [] (blks (.slice a n c)) ∧ ∀ v ∈ vs, Fr w [] (stb v)
theorem one_cells {v : Value} (h : v.oneCell' = true) : v.cells = #[v] := by
  cases v <;> first | rfl | (simp [Value.oneCell'] at h)
theorem fill_v (v z : Value) (h : v.oneCell' = true) : Instr.fill (fun i => some (i * 1, 1)) #[z] [(0, v)] = some #[v] := by
  simp [Instr.fill, one_cells h]
theorem wpList_buildV {P : Program} {ops : Array Oper} {rest : List Oper} {o : Oper} {a : Act} {w : World} {Q : Exit → Act → World → Prop} (hg : o.guard = none) (t e : TypeId) (x : Operand) (ho : o.op = .buildSlice t 1 #[(0, x)])
    (v : Value) (h1 : v.oneCell' = true) (hx : a.eval x = v) (z : Value) (bytes : Nat) (hu : P.underlying t = some (.slice e)) (hinfo : (P.info? e).map (fun i => (i.zero, i.size, i.bytes)) = some (some z, 1, bytes)) (hz1 : z.cells.size = 1)
    (h : wpList P ops Q rest (a.put o.dst (.slice (some ⟨w.heap.size, 0, none⟩) 1 1)) (w.alloc (.cells #[v] e))) : wpList P ops Q (o :: rest) a w := by
  obtain ⟨i, hi, hz, hs, hb⟩ := info_parts hinfo
  refine wpList_buildSlice hg t e 1 #[(0, x)] ho #[v] i z hu hi hz (by rw [hs]; omega) (by rw [hs]; omega) ?_ h
  have e1 : (Array.range (1 * i.size)).map (fun j => z.cells[j % z.cells.size]!) = #[z.cells[0]!] := by
    apply Array.ext
    · simp [hs]
    · intro j h1 h2
      have hj : j = 0 := by simp at h2; exact h2
      subst hj; simp [hz1]
  rw [e1, hs]
  simpa [hx] using fill_v v z.cells[0]! h1
theorem info93 : (Try.prog.info? 93).map (fun i => (i.zero, i.size, i.bytes)) = some (some .nilIface, 1, 16) := by kernel_rfl
end Go.Proofs.Ytpocegdlobnhaaa
end
section
/- whole: the walk. -/
set_option linter.unusedVariables false
set_option linter.unusedSimpArgs false
set_option maxRecDepth 100000
namespace Go.Proofs.Ytpocegdlobnhaaa
open Go.RowKit
open Cod (RdAt RS)
theorem dl_no1 {D : List UInt8} (h : ckO D = false) : dlO D = none := by rw [dlO, if_neg (by rw [h]; simp)]
theorem give_noD {w W : World} {D : List UInt8} {s : Dl} {a : Option Addr} {n c B : Nat} (h : dlO D = none) (k : Keep [] w W) (hB : w.heap.size ≤ B) : ∀ W', Keep [B] W W' → GiveD w (dlO D) (.returned (.tuple #[.agg (s.cells a n c).toArray, .bool false])) W' := fun W' k' =>
  ⟨k.trans k' (fun b hb => by simp only [List.mem_singleton] at hb; subst hb; exact Or.inr hB), by rw [h]; exact ⟨s, a, n, c, rfl⟩⟩
theorem StIs.one {w : World} {v : Value} {x : StepP} (h : StIs w v x) : v.oneCell' = true := by
  cases x with
  | cp f c => cases h; rfl
  | lit ys => obtain ⟨a, n, c, rfl, -⟩ := h; rfl
theorem stepO_some {d : List UInt8} {s s' : RS} {bl sz : Nat} {x : StepP} (h : stepO d s bl = some (x, s')) (hb : bl * sz ≤ 131072) (hd : d.length ≤ 131072) : x.len sz ≤ 131072 ∧ s'.code = 0 := by
  unfold stepO at h
  split at h
  · split at h
    · rename_i h3
      simp only [Option.some.injEq, Prod.mk.injEq] at h
      obtain ⟨rfl, rfl⟩ := h
      refine ⟨?_, h3.2⟩
      have h4 := h3.1.2.2
      exact Nat.le_trans (Nat.mul_le_mul_right sz (Nat.le_trans h4 (Nat.sub_le _ _))) hb
    · cases h
  · split at h
    · split at h
      · rename_i h3
        simp only [Option.some.injEq, Prod.mk.injEq] at h
        obtain ⟨rfl, rfl⟩ := h
        exact ⟨Nat.le_trans (text_max _ _ _) hd, h3.2⟩
      · cases h
    · cases h
theorem stepO_cp {d : List UInt8} {s s' : RS} {bl f c : Nat} (h : stepO d s bl = some (.cp f c, s')) : c ≤ bl := by
  unfold stepO at h
  split at h
  · split at h
    · rename_i h3
      simp only [Option.some.injEq, Prod.mk.injEq, StepP.cp.injEq] at h
      obtain ⟨⟨rfl, rfl⟩, rfl⟩ := h
      omega
    · cases h
  · split at h
    · split at h
      · simp only [Option.some.injEq, Prod.mk.injEq, reduceCtorEq, false_and] at h
      · cases h
    · cases h
/-- What holds ahead of the i-th instruction. -/
def PLd (w : World) (A B C P : Nat) (S : List Nat) (d : List UInt8) (X : Dl) (bl : Nat) (s8 : RS) (n : Nat) (v6 v68 : Value) (wr : World) : Prop :=
  ∃ (i m : Nat) (l : List StepP) (s : RS) (ao : Option Addr) (co : Nat) (vs : List Value), i ≤ n ∧ v68 = .int .i64 (i : Nat) ∧ v6 = .int .i64 (m : Nat) ∧ Hid (stepsO d bl X.size X.total s8 i = some (l, m, s)) ∧ PS w A 89 (X.cells ao i co) B C P S d s wr ∧ Sl wr 93 1 (.slice ao i co) i vs ∧ StL wr vs l ∧ (∀ b ∈ blks (.slice ao i co), b ≠ A ∧ b ≠ B ∧ b ≠ C ∧ b ∉ S ∧ w.heap.size ≤ b) ∧ (∀ v ∈ vs, ∀ b ∈ stb v, b ≠ A ∧ b ≠ B ∧ b ≠ C ∧ b ∉ S ∧ w.heap.size ≤ b ∧ b ∉ blks (.slice ao i co) ∧ b < wr.heap.size)
set_option maxHeartbeats 8000000 in
theorem whole_any (a : Option Addr) (n c : Nat) (D : List UInt8) (w : World) (hx : InBytes w a n c D) :
    Calls Try.prog 52 #[.slice a n c] w (GiveD w (dlO D)) := by
  have HZI := Lib.hid (hi89 zeroD none 0 0)
  have HZ1 := Lib.hid (zeroD.one none 0 0)
  have HZL := Lib.hid (zeroD.len none 0 0)
  have HGN := Lib.hid (fun W (A B : Nat) (k : Keep [] w W) (hB : w.heap.size ≤ B) (h : dlO D = none) => give_noD (s := zeroD) (a := none) (n := 0) (c := 0) (B := B) h k hB)
  obtain ⟨zc, hzc⟩ : ∃ zc, zeroD.cells none 0 0 = zc := ⟨_, rfl⟩
  rw [hzc] at HZI HZ1 HZL HGN
  have B0 : Blk (w.alloc (.cells zc.toArray 89)) w.heap.size zc.toArray 89 := Blk.new _ _ _
  have B1 := B0.alloc (.cells #[.bool false] 4)
  have R1 : Blk ((w.alloc (.cells zc.toArray 89)).alloc (.cells #[.bool false] 4)) (w.heap.size + 1) #[.bool false] 4 := Blk.new' _ _ _ (by simp)
  have kW : Keep [] w ((w.alloc (.cells zc.toArray 89)).alloc (.cells #[.bool false] 4)) := ((Keep.refl [] w).alloc _).alloc _
  obtain ⟨W, hW⟩ : ∃ W, (w.alloc (.cells zc.toArray 89)).alloc (.cells #[.bool false] 4) = W := ⟨_, rfl⟩
  rw [hW] at B1 R1 kW
  have HW := Lib.hid hW
  have HZC := Lib.hid hzc
  clear hW B0 hzc
  obtain ⟨A, hA⟩ : ∃ A, w.heap.size = A := ⟨_, rfl⟩
  obtain ⟨B, hB⟩ : ∃ B, A + 1 = B := ⟨_, rfl⟩
  have hwA : w.heap.size ≤ A := by omega
  have hwB : w.heap.size ≤ B := by omega
  have hAB : A ≠ B := by omega
  rw [hA] at B1 R1
  rw [hB] at R1
  have HA := Lib.hid hA
  have HB := Lib.hid hB
  have hAlt := B1.lt
  have hBlt := R1.lt
  have hlen := hx.hlen
  have hxW := hx.keep kW (by simp)
  clear hA hB hx
  cases hck : ckO D with
  | false =>
    have HC := Lib.hid (checked_no a n c D W hxW hck)
    have HNO := Lib.hid (dl_no1 hck)
    clear hck
    go_enter_defers Try.func52, Try.ntmps52
    go_upto_region 2 with fail
    change Code.wp _ _ _ _ (World.alloc (World.alloc _ (.cells (zeroD.cells none 0 0).toArray 89)) (.cells #[.bool false] 4))
    rw [HZC.out, HW.out, HA.out, HB.out]
    go_wp2_with (first
      | (go_at_call 84; refine HC.out.mono ?_; rintro e w1 ⟨rfl, k1⟩)
      | fail)
    exact door rfl rfl rfl (B1.keep k1 (by simp)) (R1.keep k1 (by simp)) hAB Try.underlying89 rfl HZI.out (HGN.out _ A B (kW.trans' k1) hwB HNO.out)
  | true =>
  have HC := Lib.hid (checked_yes a n c D W hxW hck)
  have HSO := Lib.hid (show dlO D = dlB (D.take (n - 4)) by rw [dlO, if_pos hck, hlen])
  have hdl : (D.take (n - 4)).length ≤ 131072 := by have := (ckO_len hck).2.1; rw [List.length_take]; omega
  obtain ⟨d, hd⟩ : ∃ d, D.take (n - 4) = d := ⟨_, rfl⟩
  rw [hd] at HC HSO hdl
  have HDL := Lib.hid hdl
  clear hd hck hxW hlen hdl
  go_enter_defers Try.func52, Try.ntmps52
  go_upto_region 2 with fail
  change Code.wp _ _ _ _ (World.alloc (World.alloc _ (.cells (zeroD.cells none 0 0).toArray 89)) (.cells #[.bool false] 4))
  rw [HZC.out, HW.out, HA.out, HB.out]
  go_upto_region 3 with (first
    | (go_at_call 84; refine HC.out.mono ?_; rintro e w1 ⟨P, S, rfl, hR1, hF1, k1⟩)
    | (refine Dig.wpList_store_last rfl 140 (.tmp 4) (.tmp 9) rfl _ _ #[.pointer (some ⟨P, 0, none⟩)] rfl rfl rfl (by kernel_rfl) rfl rfl ?_)
    | fail)
  obtain ⟨C, hC⟩ : ∃ C, w1.heap.size = C := ⟨_, rfl⟩
  have BC : Blk (w1.alloc (.cells #[.pointer (some ⟨P, 0, none⟩)] 140)) w1.heap.size #[.pointer (some ⟨P, 0, none⟩)] 140 := Blk.new _ _ _
  have k2 : Keep [] w1 (w1.alloc (.cells #[.pointer (some ⟨P, 0, none⟩)] 140)) := (Keep.refl [] w1).alloc _
  have hWs := k1.size
  have hSlt := hR1.lt
  have hF : PF w A B C P S := ⟨hwA, hwB, by have := kW.size; omega, fun x hx => Nat.le_trans kW.size (fr_old hF1 x hx), hR1.self, hAB, by omega, by omega, fun h => by have := fr_old hF1 _ h; omega, fun h => by have := fr_old hF1 _ h; omega, fun h => by have := hSlt _ h; omega⟩
  obtain ⟨W2, hW2⟩ : ∃ W, w1.alloc (.cells #[.pointer (some ⟨P, 0, none⟩)] 140) = W := ⟨_, rfl⟩
  rw [hW2] at BC k2 ⊢
  rw [hC] at BC ⊢
  have hS : PS w A 89 zc B C P S d ⟨0, 0, 0⟩ W2 := ⟨(B1.keep k1 (by simp)).keep k2 (by simp), (R1.keep k1 (by simp)).keep k2 (by simp), BC, hR1.keep k2 (by simp), (kW.trans' k1).trans' k2⟩
  clear hC hW2 k2 BC hWs hSlt hR1 hF1 k1 B1 R1 HC hAlt hBlt hwA hwB hAB kW
  obtain ⟨a1, s1, e1⟩ : ∃ u v, Cod.rFixed d ⟨0, 0, 0⟩ 1 = (u, v) := ⟨_, _, rfl⟩
  obtain ⟨wd, s2, e2⟩ : ∃ u v, Cod.rNumber d s1 = (u, v) := ⟨_, _, rfl⟩
  obtain ⟨sz, s3, e3⟩ : ∃ u v, Cod.rNumber d s2 = (u, v) := ⟨_, _, rfl⟩
  obtain ⟨ln, s4, e4⟩ : ∃ u v, Cod.rNumber d s3 = (u, v) := ⟨_, _, rfl⟩
  obtain ⟨xs, s5, e5⟩ : ∃ u v, Cod.rRaw d s4 wd = (u, v) := ⟨_, _, rfl⟩
  obtain ⟨tot, s6, e6⟩ : ∃ u v, Cod.rNumber d s5 = (u, v) := ⟨_, _, rfl⟩
  obtain ⟨zs, s7, e7⟩ : ∃ u v, Cod.rRaw d s6 wd = (u, v) := ⟨_, _, rfl⟩
  obtain ⟨nn, s8, e8⟩ : ∃ u v, Cod.rNumber d s7 = (u, v) := ⟨_, _, rfl⟩
  have HSB : Hid (dlB d = if a1 = 68 ∧ s1.code = 0 then (if (okW wd && okS sz && decide (ln ≤ 131072)) = true ∧ s4.code = 0 then (if (decide (tot ≤ 131072) && decide (nn ≤ 2048)) = true ∧ s8.code = 0 then (match stepsO d (ln / sz) sz tot s8 nn with | none => none | some (l, m, s) => if (decide (m = tot) && decide (Cod.rLeft d s = 0)) = true ∧ s.code = 0 then some ⟨wd, sz, ln, padT xs, padT zs, tot, l, padT_len _, padT_len _⟩ else none) else none) else none) else none) := Lib.hid (by
    simp only [dlB, hdL, hdZ, hdW, hdS, e1, e2, e3, e4, e5, e6, e7, e8] <;> rfl)
  have RF := Lib.hid (fun W h => by have := Cod.rfixed_any P S d ⟨0, 0, 0⟩ 1 W h; rw [e1] at this; exact this : ∀ W, RdAt W P S d ⟨0, 0, 0⟩ → Calls Try.prog 86 #[.pointer (some ⟨P, 0, none⟩), .int .i64 1] W fun e w' => e = .returned (.int .i64 (a1 : Nat)) ∧ RdAt w' P S d s1 ∧ Keep [P] W w')
  have RN1 := Lib.hid (fun W h => by have := Cod.rnumber_any P S d s1 W h; rw [e2] at this; exact this : ∀ W, RdAt W P S d s1 → Calls Try.prog 87 #[.pointer (some ⟨P, 0, none⟩)] W fun e w' => e = .returned (.int .i64 (wd : Nat)) ∧ RdAt w' P S d s2 ∧ Keep [P] W w')
  have RN2 := Lib.hid (fun W h => by have := Cod.rnumber_any P S d s2 W h; rw [e3] at this; exact this : ∀ W, RdAt W P S d s2 → Calls Try.prog 87 #[.pointer (some ⟨P, 0, none⟩)] W fun e w' => e = .returned (.int .i64 (sz : Nat)) ∧ RdAt w' P S d s3 ∧ Keep [P] W w')
  have RN3 := Lib.hid (fun W h => by have := Cod.rnumber_any P S d s3 W h; rw [e4] at this; exact this : ∀ W, RdAt W P S d s3 → Calls Try.prog 87 #[.pointer (some ⟨P, 0, none⟩)] W fun e w' => e = .returned (.int .i64 (ln : Nat)) ∧ RdAt w' P S d s4 ∧ Keep [P] W w')
  have RID := Lib.hid (fun W h h1 h2 => by
      have := id_any P S d s4 wd W h h1 h2; rw [e5] at this; rw [show padT xs = padId xs from padT_eq (by have := rRaw_len d s4 wd; rw [e5] at this; exact Nat.le_trans this h2)]; exact this : ∀ W, RdAt W P S d s4 → 1 ≤ wd → wd ≤ 32 → Calls Try.prog 88 #[rdr P, .int .i64 (wd : Nat)] W fun e w' => e = .returned (.agg (bs (padT xs)).toArray) ∧ RdAt w' P S d s5 ∧ Keep [P] W w')
  have RN5 := Lib.hid (fun W h => by have := Cod.rnumber_any P S d s5 W h; rw [e6] at this; exact this : ∀ W, RdAt W P S d s5 → Calls Try.prog 87 #[.pointer (some ⟨P, 0, none⟩)] W fun e w' => e = .returned (.int .i64 (tot : Nat)) ∧ RdAt w' P S d s6 ∧ Keep [P] W w')
  have RID2 := Lib.hid (fun W h h1 h2 => by
      have := id_any P S d s6 wd W h h1 h2; rw [e7] at this; rw [show padT zs = padId zs from padT_eq (by have := rRaw_len d s6 wd; rw [e7] at this; exact Nat.le_trans this h2)]; exact this : ∀ W, RdAt W P S d s6 → 1 ≤ wd → wd ≤ 32 → Calls Try.prog 88 #[rdr P, .int .i64 (wd : Nat)] W fun e w' => e = .returned (.agg (bs (padT zs)).toArray) ∧ RdAt w' P S d s7 ∧ Keep [P] W w')
  have RN7 := Lib.hid (fun W h => by have := Cod.rnumber_any P S d s7 W h; rw [e8] at this; exact this : ∀ W, RdAt W P S d s7 → Calls Try.prog 87 #[.pointer (some ⟨P, 0, none⟩)] W fun e w' => e = .returned (.int .i64 (nn : Nat)) ∧ RdAt w' P S d s8 ∧ Keep [P] W w')
  have HSO1 := Lib.hid (show ¬ (a1 = 68 ∧ s1.code = 0) → dlO D = none from fun h => by rw [HSO.out, HSB.out, if_neg h])
  have HSO2 := Lib.hid (show ¬ ((okW wd && okS sz && decide (ln ≤ 131072)) = true ∧ s4.code = 0) → dlO D = none from fun h => by rw [HSO.out, HSB.out, if_neg h, ite_self])
  have HSO3 := Lib.hid (show ¬ ((decide (tot ≤ 131072) && decide (nn ≤ 2048)) = true ∧ s8.code = 0) → dlO D = none from fun h => by rw [HSO.out, HSB.out, if_neg h, ite_self, ite_self])
  clear e1 e2 e3 e4 e5 e6 e7 e8
  have hS := hS.drew
  refine wp_region_held_drew (S := fun w' => w'.cell? ⟨C, 0, none⟩ = some (.pointer (some ⟨P, 0, none⟩))) (by kernel_rfl) ?_ (fun hHeld0 => ?_)
  · (try dsimp only); exact hS.bc.cell (i := 0) rfl
  refine wpAnyH_take (i := 0) (oi := ({ dst := some 10, op := .load 140 (.tmp 4), type := 140, pos := "apply.go:35", after := #[], guard := none } : Oper)) (v := ?_) rfl (by kernel_rfl) (by kernel_rfl) (by kernel_rfl) (fun c a w h => back23 rfl 10 (by decide) (by decide) c a _ w h) (Or.inl ⟨by rfl, ?_⟩) (by assumption) ?_
  rotate_left
  · (intro w hSw; (try dsimp only at hSw); go_simp; try with_reducible rfl)
  try simp only [Act.put, List.setIfInBounds_toArray, List.set_cons_zero, List.set_cons_succ]
  refine wpAnyH_take (i := 1) (oi := ({ dst := some 11, op := .fieldAddr 140 (.tmp 4) 0, type := 0, pos := "apply.go:35", after := #[], guard := none } : Oper)) (v := ?_) rfl (by kernel_rfl) (by kernel_rfl) (by kernel_rfl) (fun c a w h => back23 rfl 11 (by decide) (by decide) c a _ w h) (Or.inl ⟨by rfl, ?_⟩) (by assumption) ?_
  rotate_left
  · (intro w hSw; (try dsimp only at hSw); go_simp; try with_reducible rfl)
  try simp only [Act.put, List.setIfInBounds_toArray, List.set_cons_zero, List.set_cons_succ]
  refine wpAnyH_take (i := 2) (oi := ({ dst := some 12, op := .load 138 (.tmp 11), type := 138, pos := "apply.go:35", after := #[{ on := 1, ground := .data }], guard := none } : Oper)) (v := ?_) rfl (by kernel_rfl) (by kernel_rfl) (by kernel_rfl) (fun c a w h => back23 rfl 12 (by decide) (by decide) c a _ w h) (Or.inl ⟨by rfl, ?_⟩) (by assumption) ?_
  rotate_left
  · (intro w hSw; (try dsimp only at hSw); go_simp; try with_reducible rfl)
  try simp only [Act.put, List.setIfInBounds_toArray, List.set_cons_zero, List.set_cons_succ]
  refine wpAnyH_ready (rs := [3]) (by kernel_rfl) (by simp) ?_
  refine (AllReadyH.cons (o := ({ dst := some 13, op := .call { callee := .value (.func 86), args := #[.tmp 12, .const (.int .i64 1)], argTypes := #[138, 3] }, type := 3, pos := "apply.go:35", after := #[{ on := 2, ground := .data }], guard := none } : Oper)) rfl (fun K hK => ?_) AllReadyH.nil)
  go_simp
  (refine (RF.out _ hS.rd).mono ?_; rintro e w' ⟨rfl, hRn, kn⟩; have hS := hS.read hF kn hRn)
  go_wp2_with fail
  refine hK.out _ _ ?_ (fun hHeld1 => ?_)
  · (try dsimp only); exact hS.bc.cell (i := 0) rfl
  clear hK K
  try simp only [Act.put, List.setIfInBounds_toArray, List.set_cons_zero, List.set_cons_succ]
  refine wpAnyH_take (i := 4) (oi := ({ dst := some 14, op := .binOp .eql 3 (.tmp 13) (.const (.int .i64 68)) 3, type := 4, pos := "apply.go:35", after := #[{ on := 3, ground := .data }], guard := none } : Oper)) (v := ?_) rfl (by kernel_rfl) (by kernel_rfl) (by kernel_rfl) (fun c a w h => back23 rfl 14 (by decide) (by decide) c a _ w h) (Or.inl ⟨by rfl, ?_⟩) (by assumption) ?_
  rotate_left
  · (intro w hSw; (try dsimp only at hSw); go_simp; try with_reducible rfl)
  try simp only [Act.put, List.setIfInBounds_toArray, List.set_cons_zero, List.set_cons_succ]
  refine wpAnyH_ready (rs := [5]) (by kernel_rfl) (by simp) ?_
  refine (AllReadyH.cons (o := ({ dst := some 15, op := .call { callee := .value (.func 85), args := #[.tmp 10, .tmp 14], argTypes := #[140, 4] }, type := 0, pos := "apply.go:35", after := #[{ on := 0, ground := .data }, { on := 4, ground := .data }, { on := 3, ground := .chain }], guard := none } : Oper)) rfl (fun K hK => ?_) AllReadyH.nil)
  go_simp
  (refine (ask_any P S d s1 _ _ hS.rd).mono ?_; rintro e w' ⟨he, kn⟩; have hS := hS.keep0 kn; split at he; rotate_left; (· rename_i hq; subst he; go_wp2_with fail; exact door rfl rfl rfl hS.ba hS.bb hF.ab Try.underlying89 rfl HZI.out (HGN.out _ A B hS.k hF.b (HSO1.out (fun h => hq ⟨by simp; omega, h.2⟩)))); rename_i hq; subst he)
  go_wp2_with fail
  refine hK.out _ _ ?_ (fun hHeld2 => ?_)
  · (try dsimp only); exact hS.bc.cell (i := 0) rfl
  clear hK K
  try simp only [Act.put, List.setIfInBounds_toArray, List.set_cons_zero, List.set_cons_succ]
  refine wpAnyH_done (by kernel_rfl) ?_ _
  skip
  obtain ⟨hq1, hq2⟩ := hq
  have q1 : a1 = 68 := by simp at hq1; omega
  have HSB1 : Hid (dlB d = (if (okW wd && okS sz && decide (ln ≤ 131072)) = true ∧ s4.code = 0 then (if (decide (tot ≤ 131072) && decide (nn ≤ 2048)) = true ∧ s8.code = 0 then (match stepsO d (ln / sz) sz tot s8 nn with | none => none | some (l, m, s) => if (decide (m = tot) && decide (Cod.rLeft d s = 0)) = true ∧ s.code = 0 then some ⟨wd, sz, ln, padT xs, padT zs, tot, l, padT_len _, padT_len _⟩ else none) else none) else none)) := Lib.hid (by rw [HSB.out, if_pos ⟨q1, hq2⟩])
  clear HSB hq1 hq2 q1 HSO1 hHeld0 hHeld1 hHeld2 hRn kn RF
  obtain ⟨z0, hz0⟩ : ∃ z, List.replicate 32 (0 : UInt8) = z := ⟨_, rfl⟩
  have hzl : z0.length = 32 := by rw [← hz0]; simp
  have HBG := Lib.hid (built_dl3 wd sz ln)
  have HGG : Hid ((Dl.mk wd sz ln (List.replicate 32 0) (List.replicate 32 0) 0 [] (by simp) (by simp)).cells none 0 0 = (Dl.mk wd sz ln z0 z0 0 [] hzl hzl).cells none 0 0) := Lib.hid (by subst hz0; rfl)
  rw [HGG.out] at HBG
  have HG1 := Lib.hid ((Dl.mk wd sz ln z0 z0 0 [] hzl hzl).one none 0 0)
  have HGI := Lib.hid (hi89 (Dl.mk wd sz ln z0 z0 0 [] hzl hzl) none 0 0)
  have HGL := Lib.hid ((Dl.mk wd sz ln z0 z0 0 [] hzl hzl).len none 0 0)
  have HGN2 := Lib.hid (fun W (X : Dl) (A B : Nat) (k : Keep [] w W) (hB : w.heap.size ≤ B) (h : dlO D = none) => give_noD (s := X) (a := none) (n := 0) (c := 0) (B := B) h k hB)
  clear hz0 HGG
  obtain ⟨gc, hgc⟩ : ∃ gc, (Dl.mk wd sz ln z0 z0 0 [] hzl hzl).cells none 0 0 = gc := ⟨_, rfl⟩
  rw [hgc] at HBG HG1 HGI HGL
  have HGC := Lib.hid hgc
  clear hgc
  go_upto_region 4 with fail
  have hS := hS.drew
  refine wp_region_noPanic ?_
  refine wp_region_held_drew (S := fun w' => w'.cell? ⟨C, 0, none⟩ = some (.pointer (some ⟨P, 0, none⟩))) (by kernel_rfl) ?_ (fun hHeld0 => ?_)
  · (try dsimp only); exact hS.bc.cell (i := 0) rfl
  refine wpAnyH_take (i := 0) (oi := ({ dst := some 16, op := .fieldAddr 140 (.tmp 4) 0, type := 0, pos := "apply.go:36", after := #[], guard := none } : Oper)) (v := ?_) rfl (by kernel_rfl) (by kernel_rfl) (by kernel_rfl) (fun _ _ _ h => h) (Or.inl ⟨by rfl, ?_⟩) (by assumption) ?_
  rotate_left
  · (intro w hSw; (try dsimp only at hSw); go_simp; try with_reducible rfl)
  try simp only [Act.put, List.setIfInBounds_toArray, List.set_cons_zero, List.set_cons_succ]
  refine wpAnyH_take (i := 1) (oi := ({ dst := some 17, op := .load 138 (.tmp 16), type := 138, pos := "apply.go:36", after := #[{ on := 0, ground := .data }], guard := none } : Oper)) (v := ?_) rfl (by kernel_rfl) (by kernel_rfl) (by kernel_rfl) (fun _ _ _ h => h) (Or.inl ⟨by rfl, ?_⟩) (by assumption) ?_
  rotate_left
  · (intro w hSw; (try dsimp only at hSw); go_simp; try with_reducible rfl)
  try simp only [Act.put, List.setIfInBounds_toArray, List.set_cons_zero, List.set_cons_succ]
  refine wpAnyH_take (i := 3) (oi := ({ dst := some 19, op := .fieldAddr 140 (.tmp 4) 0, type := 0, pos := "apply.go:36", after := #[], guard := none } : Oper)) (v := ?_) rfl (by kernel_rfl) (by kernel_rfl) (by kernel_rfl) (fun _ _ _ h => h) (Or.inl ⟨by rfl, ?_⟩) (by assumption) ?_
  rotate_left
  · (intro w hSw; (try dsimp only at hSw); go_simp; try with_reducible rfl)
  try simp only [Act.put, List.setIfInBounds_toArray, List.set_cons_zero, List.set_cons_succ]
  refine wpAnyH_take (i := 4) (oi := ({ dst := some 20, op := .load 138 (.tmp 19), type := 138, pos := "apply.go:36", after := #[{ on := 3, ground := .data }], guard := none } : Oper)) (v := ?_) rfl (by kernel_rfl) (by kernel_rfl) (by kernel_rfl) (fun _ _ _ h => h) (Or.inl ⟨by rfl, ?_⟩) (by assumption) ?_
  rotate_left
  · (intro w hSw; (try dsimp only at hSw); go_simp; try with_reducible rfl)
  try simp only [Act.put, List.setIfInBounds_toArray, List.set_cons_zero, List.set_cons_succ]
  refine wpAnyH_take (i := 6) (oi := ({ dst := some 22, op := .fieldAddr 140 (.tmp 4) 0, type := 0, pos := "apply.go:36", after := #[], guard := none } : Oper)) (v := ?_) rfl (by kernel_rfl) (by kernel_rfl) (by kernel_rfl) (fun _ _ _ h => h) (Or.inl ⟨by rfl, ?_⟩) (by assumption) ?_
  rotate_left
  · (intro w hSw; (try dsimp only at hSw); go_simp; try with_reducible rfl)
  try simp only [Act.put, List.setIfInBounds_toArray, List.set_cons_zero, List.set_cons_succ]
  refine wpAnyH_take (i := 7) (oi := ({ dst := some 23, op := .load 138 (.tmp 22), type := 138, pos := "apply.go:36", after := #[{ on := 6, ground := .data }], guard := none } : Oper)) (v := ?_) rfl (by kernel_rfl) (by kernel_rfl) (by kernel_rfl) (fun _ _ _ h => h) (Or.inl ⟨by rfl, ?_⟩) (by assumption) ?_
  rotate_left
  · (intro w hSw; (try dsimp only at hSw); go_simp; try with_reducible rfl)
  try simp only [Act.put, List.setIfInBounds_toArray, List.set_cons_zero, List.set_cons_succ]
  refine wpAnyH_ready (rs := [2]) (by kernel_rfl) (by simp) ?_
  refine (AllReadyH.cons (o := ({ dst := some 18, op := .call { callee := .value (.func 87), args := #[.tmp 17], argTypes := #[138] }, type := 3, pos := "apply.go:36", after := #[{ on := 1, ground := .data }], guard := none } : Oper)) rfl (fun K hK => ?_) AllReadyH.nil)
  go_simp
  (refine (RN1.out _ hS.rd).mono ?_; rintro e w' ⟨rfl, hRn, kn⟩; have hS := hS.read hF kn hRn; have h9 := kn)
  go_wp2_with fail
  refine hK.out _ _ ?_ (fun hHeld1 => ?_)
  · (try dsimp only); exact hS.bc.cell (i := 0) rfl
  clear hK K
  try simp only [Act.put, List.setIfInBounds_toArray, List.set_cons_zero, List.set_cons_succ]
  refine wpAnyH_ready (rs := [5]) (by kernel_rfl) (by simp) ?_
  refine (AllReadyH.cons (o := ({ dst := some 21, op := .call { callee := .value (.func 87), args := #[.tmp 20], argTypes := #[138] }, type := 3, pos := "apply.go:36", after := #[{ on := 4, ground := .data }, { on := 2, ground := .chain }], guard := none } : Oper)) rfl (fun K hK => ?_) AllReadyH.nil)
  go_simp
  (have h8 := h9; refine (RN2.out _ hS.rd).mono ?_; rintro e w' ⟨rfl, hRn, kn⟩; have hS := hS.read hF kn hRn; have h10 := kn)
  go_wp2_with fail
  refine hK.out _ _ ?_ (fun hHeld2 => ?_)
  · (try dsimp only); exact hS.bc.cell (i := 0) rfl
  clear hK K
  try simp only [Act.put, List.setIfInBounds_toArray, List.set_cons_zero, List.set_cons_succ]
  refine wpAnyH_ready (rs := [8]) (by kernel_rfl) (by simp) ?_
  refine (AllReadyH.cons (o := ({ dst := some 24, op := .call { callee := .value (.func 87), args := #[.tmp 23], argTypes := #[138] }, type := 3, pos := "apply.go:36", after := #[{ on := 7, ground := .data }, { on := 5, ground := .chain }], guard := none } : Oper)) rfl (fun K hK => ?_) AllReadyH.nil)
  go_simp
  (have h8 := h10; refine (RN3.out _ hS.rd).mono ?_; rintro e w' ⟨rfl, hRn, kn⟩; have hS := hS.read hF kn hRn)
  go_wp2_with fail
  refine hK.out _ _ ?_ (fun hHeld3 => ?_)
  · (try dsimp only); exact hS.bc.cell (i := 0) rfl
  clear hK K
  try simp only [Act.put, List.setIfInBounds_toArray, List.set_cons_zero, List.set_cons_succ]
  refine wpAnyH_ready (rs := [9]) (by kernel_rfl) (by simp) ?_
  refine (AllReadyH.cons (o := ({ dst := some 25, op := .build 89 #[(0, .tmp 18), (1, .tmp 21), (2, .tmp 24)], type := 89, pos := "apply.go:36", after := #[{ on := 2, ground := .data }, { on := 5, ground := .data }, { on := 8, ground := .data }], guard := none } : Oper)) rfl (fun K hK => ?_) AllReadyH.nil)
  (refine step_built3 rfl 89 (.tmp 18) (.tmp 21) (.tmp 24) rfl (.int .i64 (wd : Nat)) (.int .i64 (sz : Nat)) (.int .i64 (ln : Nat)) rfl rfl rfl gc.toArray HBG.out ?_)
  refine hK.out _ _ ?_ (fun hHeld4 => ?_)
  · (try dsimp only); exact hS.bc.cell (i := 0) rfl
  clear hK K
  try simp only [Act.put, List.setIfInBounds_toArray, List.set_cons_zero, List.set_cons_succ]
  refine wpAnyH_ready (rs := [10]) (by kernel_rfl) (by simp) ?_
  refine (AllReadyH.cons (o := ({ dst := none, op := .store 89 (.tmp 2) (.tmp 25), type := 0, pos := "apply.go:36", after := #[{ on := 9, ground := .data }, { on := 8, ground := .chain }, { on := 0, ground := .phase }, { on := 1, ground := .phase }, { on := 2, ground := .phase }, { on := 3, ground := .phase }, { on := 4, ground := .phase }, { on := 5, ground := .phase }, { on := 6, ground := .phase }, { on := 7, ground := .phase }, { on := 8, ground := .phase }, { on := 9, ground := .phase }], guard := none } : Oper)) rfl (fun K hK => ?_) AllReadyH.nil)
  (refine step_storeAll rfl 89 (.tmp 2) (.tmp 25) rfl A 89 gc zc rfl rfl hS.ba (by rw [HZL.out, HGL.out]) HG1.out HGI.out ?_; intro wN BN kN; have hS := hS.put hF kN BN)
  refine hK.out _ _ ?_ (fun hHeld5 => ?_)
  · (try dsimp only); exact hS.bc.cell (i := 0) rfl
  clear hK K
  try simp only [Act.put, List.setIfInBounds_toArray, List.set_cons_zero, List.set_cons_succ]
  refine wpAnyH_done (by kernel_rfl) ?_ _
  refine NoPanic.normal ?_
  skip
  clear RN1 RN2 RN3 hRn kn h9 h8 h10 hHeld0 hHeld1 hHeld2 hHeld3 hHeld4 hHeld5 HZ1 HZL BN kN
  rw [← HGC.out] at hS
  have hS := hS.drew
  go_upto_region 5 with fail
  cases hw : okW (wd : Nat) with
  | false =>
    have HNO := Lib.hid (HSO2.out (fun h => by have h := h.1; simp only [hw, Bool.false_and, Bool.and_false, Bool.false_eq_true] at h))
    refine wp_region_held_drew (S := fun w' => w'.cell? ⟨C, 0, none⟩ = some (.pointer (some ⟨P, 0, none⟩)) ∧ w'.cell? ⟨A, 0, none⟩ = some (.int .i64 (wd : Nat)) ∧ w'.cell? ⟨A, 1, none⟩ = some (.int .i64 (sz : Nat)) ∧ w'.cell? ⟨A, 2, none⟩ = some (.int .i64 (ln : Nat))) (by kernel_rfl) ?_ (fun hHeld0 => ?_)
    · (try dsimp only); exact ⟨hS.bc.cell (i := 0) rfl, dl_width hS.ba, dl_size hS.ba, dl_length hS.ba⟩
    refine wpAnyH_take (i := 0) (oi := ({ dst := some 26, op := .load 140 (.tmp 4), type := 140, pos := "apply.go:37", after := #[], guard := none } : Oper)) (v := ?_) rfl (by kernel_rfl) (by kernel_rfl) (by kernel_rfl) (fun c a w h => back23 rfl 26 (by decide) (by decide) c a _ w h) (Or.inl ⟨by rfl, ?_⟩) (by assumption) ?_
    rotate_left
    · (intro w hSw; (try dsimp only at hSw); have q1 := hSw.1; go_simp; try with_reducible rfl)
    try simp only [Act.put, List.setIfInBounds_toArray, List.set_cons_zero, List.set_cons_succ]
    refine wpAnyH_take (i := 1) (oi := ({ dst := some 27, op := .fieldAddr 89 (.tmp 2) 0, type := 0, pos := "apply.go:37", after := #[], guard := none } : Oper)) (v := ?_) rfl (by kernel_rfl) (by kernel_rfl) (by kernel_rfl) (fun c a w h => back23 rfl 27 (by decide) (by decide) c a _ w h) (Or.inl ⟨by rfl, ?_⟩) (by assumption) ?_
    rotate_left
    · (intro w hSw; (try dsimp only at hSw); go_simp; try with_reducible rfl)
    try simp only [Act.put, List.setIfInBounds_toArray, List.set_cons_zero, List.set_cons_succ]
    refine wpAnyH_take (i := 2) (oi := ({ dst := some 28, op := .load 3 (.tmp 27), type := 3, pos := "apply.go:37", after := #[{ on := 1, ground := .data }], guard := none } : Oper)) (v := ?_) rfl (by kernel_rfl) (by kernel_rfl) (by kernel_rfl) (fun c a w h => back23 rfl 28 (by decide) (by decide) c a _ w h) (Or.inl ⟨by rfl, ?_⟩) (by assumption) ?_
    rotate_left
    · (intro w hSw; (try dsimp only at hSw); have q1 := hSw.2.1; go_simp; try with_reducible rfl)
    try simp only [Act.put, List.setIfInBounds_toArray, List.set_cons_zero, List.set_cons_succ]
    refine wpAnyH_ready (rs := [3]) (by kernel_rfl) (by simp) ?_
    refine (AllReadyH.cons (o := ({ dst := some 29, op := .call { callee := .value (.func 41), args := #[.tmp 28], argTypes := #[3] }, type := 4, pos := "apply.go:37", after := #[{ on := 2, ground := .data }], guard := none } : Oper)) rfl (fun K hK => ?_) AllReadyH.nil)
    go_simp
    (refine (width_k _ _).mono ?_; rintro e w' ⟨rfl, kn⟩; have hS := hS.keep0 kn; rw [hw])
    go_wp2_with fail
    refine hK.out _ _ ?_ (fun hHeld1 => ?_)
    · (try dsimp only); exact ⟨hS.bc.cell (i := 0) rfl, dl_width hS.ba, dl_size hS.ba, dl_length hS.ba⟩
    clear hK K
    try simp only [Act.put, List.setIfInBounds_toArray, List.set_cons_zero, List.set_cons_succ]
    refine wpAnyH_take (i := 4) (oi := ({ dst := some 30, op := .move (.tmp 29), type := 4, pos := "apply.go:37", after := #[{ on := 3, ground := .data }, { on := 3, ground := .chain }], guard := none } : Oper)) (v := ?_) rfl (by kernel_rfl) (by kernel_rfl) (by kernel_rfl) (fun c a w h => back23 rfl 30 (by decide) (by decide) c a _ w h) (Or.inl ⟨by rfl, ?_⟩) (by assumption) ?_
    rotate_left
    · (intro w hSw; (try dsimp only at hSw); go_simp; try with_reducible rfl)
    try simp only [Act.put, List.setIfInBounds_toArray, List.set_cons_zero, List.set_cons_succ]
    refine wpAnyH_take (i := 5) (oi := ({ dst := some 31, op := .fieldAddr 89 (.tmp 2) 1, type := 0, pos := "apply.go:37", after := #[{ on := 4, ground := .guard }], guard := some (4, true) } : Oper)) (v := undef) rfl (by kernel_rfl) (by kernel_rfl) (by kernel_rfl) (fun c a w h => back23 rfl 31 (by decide) (by decide) c a _ w h) (Or.inr ⟨by rfl, rfl⟩) (by assumption) ?_
    try simp only [Act.put, List.setIfInBounds_toArray, List.set_cons_zero, List.set_cons_succ]
    refine wpAnyH_take (i := 6) (oi := ({ dst := some 32, op := .load 3 (.tmp 31), type := 3, pos := "apply.go:37", after := #[{ on := 5, ground := .data }, { on := 4, ground := .guard }], guard := some (4, true) } : Oper)) (v := undef) rfl (by kernel_rfl) (by kernel_rfl) (by kernel_rfl) (fun c a w h => back23 rfl 32 (by decide) (by decide) c a _ w h) (Or.inr ⟨by rfl, rfl⟩) (by assumption) ?_
    try simp only [Act.put, List.setIfInBounds_toArray, List.set_cons_zero, List.set_cons_succ]
    refine wpAnyH_take (i := 7) (oi := ({ dst := some 33, op := .call { callee := .value (.func 42), args := #[.tmp 32], argTypes := #[3] }, type := 4, pos := "apply.go:37", after := #[{ on := 6, ground := .data }, { on := 4, ground := .chain }, { on := 4, ground := .guard }], guard := some (4, true) } : Oper)) (v := undef) rfl (by kernel_rfl) (by kernel_rfl) (by kernel_rfl) (fun c a w h => back23 rfl 33 (by decide) (by decide) c a _ w h) (Or.inr ⟨by rfl, rfl⟩) (by assumption) ?_
    try simp only [Act.put, List.setIfInBounds_toArray, List.set_cons_zero, List.set_cons_succ]
    refine wpAnyH_take (i := 8) (oi := ({ dst := some 34, op := .pick (.tmp 30) (.tmp 33) (.const (.bool false)), type := 4, pos := "apply.go:37", after := #[{ on := 4, ground := .data }, { on := 7, ground := .data }], guard := none } : Oper)) (v := ?_) rfl (by kernel_rfl) (by kernel_rfl) (by kernel_rfl) (fun c a w h => back23 rfl 34 (by decide) (by decide) c a _ w h) (Or.inl ⟨by rfl, ?_⟩) (by assumption) ?_
    rotate_left
    · (intro w hSw; (try dsimp only at hSw); go_simp; try with_reducible rfl)
    try simp only [Act.put, List.setIfInBounds_toArray, List.set_cons_zero, List.set_cons_succ]
    refine wpAnyH_take (i := 9) (oi := ({ dst := some 35, op := .move (.tmp 34), type := 4, pos := "apply.go:37", after := #[{ on := 8, ground := .data }, { on := 7, ground := .chain }], guard := none } : Oper)) (v := ?_) rfl (by kernel_rfl) (by kernel_rfl) (by kernel_rfl) (fun c a w h => back23 rfl 35 (by decide) (by decide) c a _ w h) (Or.inl ⟨by rfl, ?_⟩) (by assumption) ?_
    rotate_left
    · (intro w hSw; (try dsimp only at hSw); go_simp; try with_reducible rfl)
    try simp only [Act.put, List.setIfInBounds_toArray, List.set_cons_zero, List.set_cons_succ]
    refine wpAnyH_take (i := 10) (oi := ({ dst := some 36, op := .fieldAddr 89 (.tmp 2) 2, type := 0, pos := "apply.go:37", after := #[{ on := 9, ground := .guard }], guard := some (9, true) } : Oper)) (v := undef) rfl (by kernel_rfl) (by kernel_rfl) (by kernel_rfl) (fun c a w h => back23 rfl 36 (by decide) (by decide) c a _ w h) (Or.inr ⟨by rfl, rfl⟩) (by assumption) ?_
    try simp only [Act.put, List.setIfInBounds_toArray, List.set_cons_zero, List.set_cons_succ]
    refine wpAnyH_take (i := 11) (oi := ({ dst := some 37, op := .load 3 (.tmp 36), type := 3, pos := "apply.go:37", after := #[{ on := 10, ground := .data }, { on := 9, ground := .guard }], guard := some (9, true) } : Oper)) (v := undef) rfl (by kernel_rfl) (by kernel_rfl) (by kernel_rfl) (fun c a w h => back23 rfl 37 (by decide) (by decide) c a _ w h) (Or.inr ⟨by rfl, rfl⟩) (by assumption) ?_
    try simp only [Act.put, List.setIfInBounds_toArray, List.set_cons_zero, List.set_cons_succ]
    refine wpAnyH_take (i := 12) (oi := ({ dst := some 38, op := .binOp .leq 3 (.tmp 37) (.const (.int .i64 131072)) 3, type := 4, pos := "apply.go:37", after := #[{ on := 11, ground := .data }, { on := 9, ground := .guard }], guard := some (9, true) } : Oper)) (v := undef) rfl (by kernel_rfl) (by kernel_rfl) (by kernel_rfl) (fun c a w h => back23 rfl 38 (by decide) (by decide) c a _ w h) (Or.inr ⟨by rfl, rfl⟩) (by assumption) ?_
    try simp only [Act.put, List.setIfInBounds_toArray, List.set_cons_zero, List.set_cons_succ]
    refine wpAnyH_take (i := 13) (oi := ({ dst := some 39, op := .pick (.tmp 35) (.tmp 38) (.const (.bool false)), type := 4, pos := "apply.go:37", after := #[{ on := 9, ground := .data }, { on := 12, ground := .data }], guard := none } : Oper)) (v := ?_) rfl (by kernel_rfl) (by kernel_rfl) (by kernel_rfl) (fun c a w h => back23 rfl 39 (by decide) (by decide) c a _ w h) (Or.inl ⟨by rfl, ?_⟩) (by assumption) ?_
    rotate_left
    · (intro w hSw; (try dsimp only at hSw); go_simp; try with_reducible rfl)
    try simp only [Act.put, List.setIfInBounds_toArray, List.set_cons_zero, List.set_cons_succ]
    refine wpAnyH_ready (rs := [14]) (by kernel_rfl) (by simp) ?_
    refine (AllReadyH.cons (o := ({ dst := some 40, op := .call { callee := .value (.func 85), args := #[.tmp 26, .tmp 39], argTypes := #[140, 4] }, type := 0, pos := "apply.go:37", after := #[{ on := 0, ground := .data }, { on := 13, ground := .data }, { on := 9, ground := .chain }], guard := none } : Oper)) rfl (fun K hK => ?_) AllReadyH.nil)
    go_simp
    (refine (ask_no P S d s4 false _ hS.rd (Or.inl rfl)).mono ?_; rintro e w' ⟨rfl, kn⟩; have hS := hS.keep0 kn)
    go_wp2_with fail
    exact door rfl rfl rfl hS.ba hS.bb hF.ab Try.underlying89 rfl (hi89 _ _ _ _) (give_noD (HNO.out) hS.k hF.b)
  | true =>
  cases hz : okS (sz : Nat) with
  | false =>
    have HNO := Lib.hid (HSO2.out (fun h => by have h := h.1; simp only [hw, hz, Bool.false_and, Bool.and_false, Bool.false_eq_true] at h))
    refine wp_region_held_drew (S := fun w' => w'.cell? ⟨C, 0, none⟩ = some (.pointer (some ⟨P, 0, none⟩)) ∧ w'.cell? ⟨A, 0, none⟩ = some (.int .i64 (wd : Nat)) ∧ w'.cell? ⟨A, 1, none⟩ = some (.int .i64 (sz : Nat)) ∧ w'.cell? ⟨A, 2, none⟩ = some (.int .i64 (ln : Nat))) (by kernel_rfl) ?_ (fun hHeld0 => ?_)
    · (try dsimp only); exact ⟨hS.bc.cell (i := 0) rfl, dl_width hS.ba, dl_size hS.ba, dl_length hS.ba⟩
    refine wpAnyH_take (i := 0) (oi := ({ dst := some 26, op := .load 140 (.tmp 4), type := 140, pos := "apply.go:37", after := #[], guard := none } : Oper)) (v := ?_) rfl (by kernel_rfl) (by kernel_rfl) (by kernel_rfl) (fun c a w h => back23 rfl 26 (by decide) (by decide) c a _ w h) (Or.inl ⟨by rfl, ?_⟩) (by assumption) ?_
    rotate_left
    · (intro w hSw; (try dsimp only at hSw); have q1 := hSw.1; go_simp; try with_reducible rfl)
    try simp only [Act.put, List.setIfInBounds_toArray, List.set_cons_zero, List.set_cons_succ]
    refine wpAnyH_take (i := 1) (oi := ({ dst := some 27, op := .fieldAddr 89 (.tmp 2) 0, type := 0, pos := "apply.go:37", after := #[], guard := none } : Oper)) (v := ?_) rfl (by kernel_rfl) (by kernel_rfl) (by kernel_rfl) (fun c a w h => back23 rfl 27 (by decide) (by decide) c a _ w h) (Or.inl ⟨by rfl, ?_⟩) (by assumption) ?_
    rotate_left
    · (intro w hSw; (try dsimp only at hSw); go_simp; try with_reducible rfl)
    try simp only [Act.put, List.setIfInBounds_toArray, List.set_cons_zero, List.set_cons_succ]
    refine wpAnyH_take (i := 2) (oi := ({ dst := some 28, op := .load 3 (.tmp 27), type := 3, pos := "apply.go:37", after := #[{ on := 1, ground := .data }], guard := none } : Oper)) (v := ?_) rfl (by kernel_rfl) (by kernel_rfl) (by kernel_rfl) (fun c a w h => back23 rfl 28 (by decide) (by decide) c a _ w h) (Or.inl ⟨by rfl, ?_⟩) (by assumption) ?_
    rotate_left
    · (intro w hSw; (try dsimp only at hSw); have q1 := hSw.2.1; go_simp; try with_reducible rfl)
    try simp only [Act.put, List.setIfInBounds_toArray, List.set_cons_zero, List.set_cons_succ]
    refine wpAnyH_ready (rs := [3]) (by kernel_rfl) (by simp) ?_
    refine (AllReadyH.cons (o := ({ dst := some 29, op := .call { callee := .value (.func 41), args := #[.tmp 28], argTypes := #[3] }, type := 4, pos := "apply.go:37", after := #[{ on := 2, ground := .data }], guard := none } : Oper)) rfl (fun K hK => ?_) AllReadyH.nil)
    go_simp
    (refine (width_k _ _).mono ?_; rintro e w' ⟨rfl, kn⟩; have hS := hS.keep0 kn; rw [hw])
    go_wp2_with fail
    refine hK.out _ _ ?_ (fun hHeld1 => ?_)
    · (try dsimp only); exact ⟨hS.bc.cell (i := 0) rfl, dl_width hS.ba, dl_size hS.ba, dl_length hS.ba⟩
    clear hK K
    try simp only [Act.put, List.setIfInBounds_toArray, List.set_cons_zero, List.set_cons_succ]
    refine wpAnyH_take (i := 4) (oi := ({ dst := some 30, op := .move (.tmp 29), type := 4, pos := "apply.go:37", after := #[{ on := 3, ground := .data }, { on := 3, ground := .chain }], guard := none } : Oper)) (v := ?_) rfl (by kernel_rfl) (by kernel_rfl) (by kernel_rfl) (fun c a w h => back23 rfl 30 (by decide) (by decide) c a _ w h) (Or.inl ⟨by rfl, ?_⟩) (by assumption) ?_
    rotate_left
    · (intro w hSw; (try dsimp only at hSw); go_simp; try with_reducible rfl)
    try simp only [Act.put, List.setIfInBounds_toArray, List.set_cons_zero, List.set_cons_succ]
    refine wpAnyH_take (i := 5) (oi := ({ dst := some 31, op := .fieldAddr 89 (.tmp 2) 1, type := 0, pos := "apply.go:37", after := #[{ on := 4, ground := .guard }], guard := some (4, true) } : Oper)) (v := ?_) rfl (by kernel_rfl) (by kernel_rfl) (by kernel_rfl) (fun c a w h => back23 rfl 31 (by decide) (by decide) c a _ w h) (Or.inl ⟨by rfl, ?_⟩) (by assumption) ?_
    rotate_left
    · (intro w hSw; (try dsimp only at hSw); go_simp; try with_reducible rfl)
    try simp only [Act.put, List.setIfInBounds_toArray, List.set_cons_zero, List.set_cons_succ]
    refine wpAnyH_take (i := 6) (oi := ({ dst := some 32, op := .load 3 (.tmp 31), type := 3, pos := "apply.go:37", after := #[{ on := 5, ground := .data }, { on := 4, ground := .guard }], guard := some (4, true) } : Oper)) (v := ?_) rfl (by kernel_rfl) (by kernel_rfl) (by kernel_rfl) (fun c a w h => back23 rfl 32 (by decide) (by decide) c a _ w h) (Or.inl ⟨by rfl, ?_⟩) (by assumption) ?_
    rotate_left
    · (intro w hSw; (try dsimp only at hSw); have q1 := hSw.2.2.1; go_simp; try with_reducible rfl)
    try simp only [Act.put, List.setIfInBounds_toArray, List.set_cons_zero, List.set_cons_succ]
    refine wpAnyH_ready (rs := [7]) (by kernel_rfl) (by simp) ?_
    refine (AllReadyH.cons (o := ({ dst := some 33, op := .call { callee := .value (.func 42), args := #[.tmp 32], argTypes := #[3] }, type := 4, pos := "apply.go:37", after := #[{ on := 6, ground := .data }, { on := 4, ground := .chain }, { on := 4, ground := .guard }], guard := some (4, true) } : Oper)) rfl (fun K hK => ?_) AllReadyH.nil)
    go_simp
    (refine (size_k _ _).mono ?_; rintro e w' ⟨rfl, kn⟩; have hS := hS.keep0 kn; rw [hz])
    go_wp2_with fail
    refine hK.out _ _ ?_ (fun hHeld2 => ?_)
    · (try dsimp only); exact ⟨hS.bc.cell (i := 0) rfl, dl_width hS.ba, dl_size hS.ba, dl_length hS.ba⟩
    clear hK K
    try simp only [Act.put, List.setIfInBounds_toArray, List.set_cons_zero, List.set_cons_succ]
    refine wpAnyH_take (i := 8) (oi := ({ dst := some 34, op := .pick (.tmp 30) (.tmp 33) (.const (.bool false)), type := 4, pos := "apply.go:37", after := #[{ on := 4, ground := .data }, { on := 7, ground := .data }], guard := none } : Oper)) (v := ?_) rfl (by kernel_rfl) (by kernel_rfl) (by kernel_rfl) (fun c a w h => back23 rfl 34 (by decide) (by decide) c a _ w h) (Or.inl ⟨by rfl, ?_⟩) (by assumption) ?_
    rotate_left
    · (intro w hSw; (try dsimp only at hSw); go_simp; try with_reducible rfl)
    try simp only [Act.put, List.setIfInBounds_toArray, List.set_cons_zero, List.set_cons_succ]
    refine wpAnyH_take (i := 9) (oi := ({ dst := some 35, op := .move (.tmp 34), type := 4, pos := "apply.go:37", after := #[{ on := 8, ground := .data }, { on := 7, ground := .chain }], guard := none } : Oper)) (v := ?_) rfl (by kernel_rfl) (by kernel_rfl) (by kernel_rfl) (fun c a w h => back23 rfl 35 (by decide) (by decide) c a _ w h) (Or.inl ⟨by rfl, ?_⟩) (by assumption) ?_
    rotate_left
    · (intro w hSw; (try dsimp only at hSw); go_simp; try with_reducible rfl)
    try simp only [Act.put, List.setIfInBounds_toArray, List.set_cons_zero, List.set_cons_succ]
    refine wpAnyH_take (i := 10) (oi := ({ dst := some 36, op := .fieldAddr 89 (.tmp 2) 2, type := 0, pos := "apply.go:37", after := #[{ on := 9, ground := .guard }], guard := some (9, true) } : Oper)) (v := undef) rfl (by kernel_rfl) (by kernel_rfl) (by kernel_rfl) (fun c a w h => back23 rfl 36 (by decide) (by decide) c a _ w h) (Or.inr ⟨by rfl, rfl⟩) (by assumption) ?_
    try simp only [Act.put, List.setIfInBounds_toArray, List.set_cons_zero, List.set_cons_succ]
    refine wpAnyH_take (i := 11) (oi := ({ dst := some 37, op := .load 3 (.tmp 36), type := 3, pos := "apply.go:37", after := #[{ on := 10, ground := .data }, { on := 9, ground := .guard }], guard := some (9, true) } : Oper)) (v := undef) rfl (by kernel_rfl) (by kernel_rfl) (by kernel_rfl) (fun c a w h => back23 rfl 37 (by decide) (by decide) c a _ w h) (Or.inr ⟨by rfl, rfl⟩) (by assumption) ?_
    try simp only [Act.put, List.setIfInBounds_toArray, List.set_cons_zero, List.set_cons_succ]
    refine wpAnyH_take (i := 12) (oi := ({ dst := some 38, op := .binOp .leq 3 (.tmp 37) (.const (.int .i64 131072)) 3, type := 4, pos := "apply.go:37", after := #[{ on := 11, ground := .data }, { on := 9, ground := .guard }], guard := some (9, true) } : Oper)) (v := undef) rfl (by kernel_rfl) (by kernel_rfl) (by kernel_rfl) (fun c a w h => back23 rfl 38 (by decide) (by decide) c a _ w h) (Or.inr ⟨by rfl, rfl⟩) (by assumption) ?_
    try simp only [Act.put, List.setIfInBounds_toArray, List.set_cons_zero, List.set_cons_succ]
    refine wpAnyH_take (i := 13) (oi := ({ dst := some 39, op := .pick (.tmp 35) (.tmp 38) (.const (.bool false)), type := 4, pos := "apply.go:37", after := #[{ on := 9, ground := .data }, { on := 12, ground := .data }], guard := none } : Oper)) (v := ?_) rfl (by kernel_rfl) (by kernel_rfl) (by kernel_rfl) (fun c a w h => back23 rfl 39 (by decide) (by decide) c a _ w h) (Or.inl ⟨by rfl, ?_⟩) (by assumption) ?_
    rotate_left
    · (intro w hSw; (try dsimp only at hSw); go_simp; try with_reducible rfl)
    try simp only [Act.put, List.setIfInBounds_toArray, List.set_cons_zero, List.set_cons_succ]
    refine wpAnyH_ready (rs := [14]) (by kernel_rfl) (by simp) ?_
    refine (AllReadyH.cons (o := ({ dst := some 40, op := .call { callee := .value (.func 85), args := #[.tmp 26, .tmp 39], argTypes := #[140, 4] }, type := 0, pos := "apply.go:37", after := #[{ on := 0, ground := .data }, { on := 13, ground := .data }, { on := 9, ground := .chain }], guard := none } : Oper)) rfl (fun K hK => ?_) AllReadyH.nil)
    go_simp
    (refine (ask_no P S d s4 false _ hS.rd (Or.inl rfl)).mono ?_; rintro e w' ⟨rfl, kn⟩; have hS := hS.keep0 kn)
    go_wp2_with fail
    exact door rfl rfl rfl hS.ba hS.bb hF.ab Try.underlying89 rfl (hi89 _ _ _ _) (give_noD (HNO.out) hS.k hF.b)
  | true =>
  have hwd : 1 ≤ wd ∧ wd ≤ 32 := by have := of_decide_eq_true hw; omega
  have hsz : 16 ≤ sz ∧ sz ≤ 4096 := by have := of_decide_eq_true hz; omega
  have HOKH : Hid ((okW wd && okS sz && decide (ln ≤ 131072)) = decide (ln ≤ 131072)) := Lib.hid (by rw [hw, hz]; rfl)
  refine wp_region_held_drew (S := fun w' => w'.cell? ⟨C, 0, none⟩ = some (.pointer (some ⟨P, 0, none⟩)) ∧ w'.cell? ⟨A, 0, none⟩ = some (.int .i64 (wd : Nat)) ∧ w'.cell? ⟨A, 1, none⟩ = some (.int .i64 (sz : Nat)) ∧ w'.cell? ⟨A, 2, none⟩ = some (.int .i64 (ln : Nat))) (by kernel_rfl) ?_ (fun hHeld0 => ?_)
  · (try dsimp only); exact ⟨hS.bc.cell (i := 0) rfl, dl_width hS.ba, dl_size hS.ba, dl_length hS.ba⟩
  refine wpAnyH_take (i := 0) (oi := ({ dst := some 26, op := .load 140 (.tmp 4), type := 140, pos := "apply.go:37", after := #[], guard := none } : Oper)) (v := ?_) rfl (by kernel_rfl) (by kernel_rfl) (by kernel_rfl) (fun c a w h => back23 rfl 26 (by decide) (by decide) c a _ w h) (Or.inl ⟨by rfl, ?_⟩) (by assumption) ?_
  rotate_left
  · (intro w hSw; (try dsimp only at hSw); have q1 := hSw.1; go_simp; try with_reducible rfl)
  try simp only [Act.put, List.setIfInBounds_toArray, List.set_cons_zero, List.set_cons_succ]
  refine wpAnyH_take (i := 1) (oi := ({ dst := some 27, op := .fieldAddr 89 (.tmp 2) 0, type := 0, pos := "apply.go:37", after := #[], guard := none } : Oper)) (v := ?_) rfl (by kernel_rfl) (by kernel_rfl) (by kernel_rfl) (fun c a w h => back23 rfl 27 (by decide) (by decide) c a _ w h) (Or.inl ⟨by rfl, ?_⟩) (by assumption) ?_
  rotate_left
  · (intro w hSw; (try dsimp only at hSw); go_simp; try with_reducible rfl)
  try simp only [Act.put, List.setIfInBounds_toArray, List.set_cons_zero, List.set_cons_succ]
  refine wpAnyH_take (i := 2) (oi := ({ dst := some 28, op := .load 3 (.tmp 27), type := 3, pos := "apply.go:37", after := #[{ on := 1, ground := .data }], guard := none } : Oper)) (v := ?_) rfl (by kernel_rfl) (by kernel_rfl) (by kernel_rfl) (fun c a w h => back23 rfl 28 (by decide) (by decide) c a _ w h) (Or.inl ⟨by rfl, ?_⟩) (by assumption) ?_
  rotate_left
  · (intro w hSw; (try dsimp only at hSw); have q1 := hSw.2.1; go_simp; try with_reducible rfl)
  try simp only [Act.put, List.setIfInBounds_toArray, List.set_cons_zero, List.set_cons_succ]
  refine wpAnyH_ready (rs := [3]) (by kernel_rfl) (by simp) ?_
  refine (AllReadyH.cons (o := ({ dst := some 29, op := .call { callee := .value (.func 41), args := #[.tmp 28], argTypes := #[3] }, type := 4, pos := "apply.go:37", after := #[{ on := 2, ground := .data }], guard := none } : Oper)) rfl (fun K hK => ?_) AllReadyH.nil)
  go_simp
  (refine (width_k _ _).mono ?_; rintro e w' ⟨rfl, kn⟩; have hS := hS.keep0 kn; rw [hw])
  go_wp2_with fail
  refine hK.out _ _ ?_ (fun hHeld1 => ?_)
  · (try dsimp only); exact ⟨hS.bc.cell (i := 0) rfl, dl_width hS.ba, dl_size hS.ba, dl_length hS.ba⟩
  clear hK K
  try simp only [Act.put, List.setIfInBounds_toArray, List.set_cons_zero, List.set_cons_succ]
  refine wpAnyH_take (i := 4) (oi := ({ dst := some 30, op := .move (.tmp 29), type := 4, pos := "apply.go:37", after := #[{ on := 3, ground := .data }, { on := 3, ground := .chain }], guard := none } : Oper)) (v := ?_) rfl (by kernel_rfl) (by kernel_rfl) (by kernel_rfl) (fun c a w h => back23 rfl 30 (by decide) (by decide) c a _ w h) (Or.inl ⟨by rfl, ?_⟩) (by assumption) ?_
  rotate_left
  · (intro w hSw; (try dsimp only at hSw); go_simp; try with_reducible rfl)
  try simp only [Act.put, List.setIfInBounds_toArray, List.set_cons_zero, List.set_cons_succ]
  refine wpAnyH_take (i := 5) (oi := ({ dst := some 31, op := .fieldAddr 89 (.tmp 2) 1, type := 0, pos := "apply.go:37", after := #[{ on := 4, ground := .guard }], guard := some (4, true) } : Oper)) (v := ?_) rfl (by kernel_rfl) (by kernel_rfl) (by kernel_rfl) (fun c a w h => back23 rfl 31 (by decide) (by decide) c a _ w h) (Or.inl ⟨by rfl, ?_⟩) (by assumption) ?_
  rotate_left
  · (intro w hSw; (try dsimp only at hSw); go_simp; try with_reducible rfl)
  try simp only [Act.put, List.setIfInBounds_toArray, List.set_cons_zero, List.set_cons_succ]
  refine wpAnyH_take (i := 6) (oi := ({ dst := some 32, op := .load 3 (.tmp 31), type := 3, pos := "apply.go:37", after := #[{ on := 5, ground := .data }, { on := 4, ground := .guard }], guard := some (4, true) } : Oper)) (v := ?_) rfl (by kernel_rfl) (by kernel_rfl) (by kernel_rfl) (fun c a w h => back23 rfl 32 (by decide) (by decide) c a _ w h) (Or.inl ⟨by rfl, ?_⟩) (by assumption) ?_
  rotate_left
  · (intro w hSw; (try dsimp only at hSw); have q1 := hSw.2.2.1; go_simp; try with_reducible rfl)
  try simp only [Act.put, List.setIfInBounds_toArray, List.set_cons_zero, List.set_cons_succ]
  refine wpAnyH_ready (rs := [7]) (by kernel_rfl) (by simp) ?_
  refine (AllReadyH.cons (o := ({ dst := some 33, op := .call { callee := .value (.func 42), args := #[.tmp 32], argTypes := #[3] }, type := 4, pos := "apply.go:37", after := #[{ on := 6, ground := .data }, { on := 4, ground := .chain }, { on := 4, ground := .guard }], guard := some (4, true) } : Oper)) rfl (fun K hK => ?_) AllReadyH.nil)
  go_simp
  (refine (size_k _ _).mono ?_; rintro e w' ⟨rfl, kn⟩; have hS := hS.keep0 kn; rw [hz])
  go_wp2_with fail
  refine hK.out _ _ ?_ (fun hHeld2 => ?_)
  · (try dsimp only); exact ⟨hS.bc.cell (i := 0) rfl, dl_width hS.ba, dl_size hS.ba, dl_length hS.ba⟩
  clear hK K
  try simp only [Act.put, List.setIfInBounds_toArray, List.set_cons_zero, List.set_cons_succ]
  refine wpAnyH_take (i := 8) (oi := ({ dst := some 34, op := .pick (.tmp 30) (.tmp 33) (.const (.bool false)), type := 4, pos := "apply.go:37", after := #[{ on := 4, ground := .data }, { on := 7, ground := .data }], guard := none } : Oper)) (v := ?_) rfl (by kernel_rfl) (by kernel_rfl) (by kernel_rfl) (fun c a w h => back23 rfl 34 (by decide) (by decide) c a _ w h) (Or.inl ⟨by rfl, ?_⟩) (by assumption) ?_
  rotate_left
  · (intro w hSw; (try dsimp only at hSw); go_simp; try with_reducible rfl)
  try simp only [Act.put, List.setIfInBounds_toArray, List.set_cons_zero, List.set_cons_succ]
  refine wpAnyH_take (i := 9) (oi := ({ dst := some 35, op := .move (.tmp 34), type := 4, pos := "apply.go:37", after := #[{ on := 8, ground := .data }, { on := 7, ground := .chain }], guard := none } : Oper)) (v := ?_) rfl (by kernel_rfl) (by kernel_rfl) (by kernel_rfl) (fun c a w h => back23 rfl 35 (by decide) (by decide) c a _ w h) (Or.inl ⟨by rfl, ?_⟩) (by assumption) ?_
  rotate_left
  · (intro w hSw; (try dsimp only at hSw); go_simp; try with_reducible rfl)
  try simp only [Act.put, List.setIfInBounds_toArray, List.set_cons_zero, List.set_cons_succ]
  refine wpAnyH_take (i := 10) (oi := ({ dst := some 36, op := .fieldAddr 89 (.tmp 2) 2, type := 0, pos := "apply.go:37", after := #[{ on := 9, ground := .guard }], guard := some (9, true) } : Oper)) (v := ?_) rfl (by kernel_rfl) (by kernel_rfl) (by kernel_rfl) (fun c a w h => back23 rfl 36 (by decide) (by decide) c a _ w h) (Or.inl ⟨by rfl, ?_⟩) (by assumption) ?_
  rotate_left
  · (intro w hSw; (try dsimp only at hSw); go_simp; try with_reducible rfl)
  try simp only [Act.put, List.setIfInBounds_toArray, List.set_cons_zero, List.set_cons_succ]
  refine wpAnyH_take (i := 11) (oi := ({ dst := some 37, op := .load 3 (.tmp 36), type := 3, pos := "apply.go:37", after := #[{ on := 10, ground := .data }, { on := 9, ground := .guard }], guard := some (9, true) } : Oper)) (v := ?_) rfl (by kernel_rfl) (by kernel_rfl) (by kernel_rfl) (fun c a w h => back23 rfl 37 (by decide) (by decide) c a _ w h) (Or.inl ⟨by rfl, ?_⟩) (by assumption) ?_
  rotate_left
  · (intro w hSw; (try dsimp only at hSw); have q1 := hSw.2.2.2; go_simp; try with_reducible rfl)
  try simp only [Act.put, List.setIfInBounds_toArray, List.set_cons_zero, List.set_cons_succ]
  refine wpAnyH_take (i := 12) (oi := ({ dst := some 38, op := .binOp .leq 3 (.tmp 37) (.const (.int .i64 131072)) 3, type := 4, pos := "apply.go:37", after := #[{ on := 11, ground := .data }, { on := 9, ground := .guard }], guard := some (9, true) } : Oper)) (v := ?_) rfl (by kernel_rfl) (by kernel_rfl) (by kernel_rfl) (fun c a w h => back23 rfl 38 (by decide) (by decide) c a _ w h) (Or.inl ⟨by rfl, ?_⟩) (by assumption) ?_
  rotate_left
  · (intro w hSw; (try dsimp only at hSw); go_simp; try with_reducible rfl)
  try simp only [Act.put, List.setIfInBounds_toArray, List.set_cons_zero, List.set_cons_succ]
  refine wpAnyH_take (i := 13) (oi := ({ dst := some 39, op := .pick (.tmp 35) (.tmp 38) (.const (.bool false)), type := 4, pos := "apply.go:37", after := #[{ on := 9, ground := .data }, { on := 12, ground := .data }], guard := none } : Oper)) (v := ?_) rfl (by kernel_rfl) (by kernel_rfl) (by kernel_rfl) (fun c a w h => back23 rfl 39 (by decide) (by decide) c a _ w h) (Or.inl ⟨by rfl, ?_⟩) (by assumption) ?_
  rotate_left
  · (intro w hSw; (try dsimp only at hSw); go_simp; try with_reducible rfl)
  try simp only [Act.put, List.setIfInBounds_toArray, List.set_cons_zero, List.set_cons_succ]
  refine wpAnyH_ready (rs := [14]) (by kernel_rfl) (by simp) ?_
  refine (AllReadyH.cons (o := ({ dst := some 40, op := .call { callee := .value (.func 85), args := #[.tmp 26, .tmp 39], argTypes := #[140, 4] }, type := 0, pos := "apply.go:37", after := #[{ on := 0, ground := .data }, { on := 13, ground := .data }, { on := 9, ground := .chain }], guard := none } : Oper)) rfl (fun K hK => ?_) AllReadyH.nil)
  go_simp
  (refine (ask_any P S d s4 _ _ hS.rd).mono ?_; rintro e w' ⟨he, kn⟩; have hS := hS.keep0 kn; split at he; rotate_left; (· rename_i hq; subst he; go_wp2_with fail; exact door rfl rfl rfl hS.ba hS.bb hF.ab Try.underlying89 rfl (hi89 _ _ _ _) (give_noD (HSO2.out (fun h => hq ⟨by rw [HOKH.out] at h; have := of_decide_eq_true h.1; simp; omega, h.2⟩)) hS.k hF.b)); rename_i hq; subst he)
  go_wp2_with fail
  refine hK.out _ _ ?_ (fun hHeld3 => ?_)
  · (try dsimp only); exact ⟨hS.bc.cell (i := 0) rfl, dl_width hS.ba, dl_size hS.ba, dl_length hS.ba⟩
  clear hK K
  try simp only [Act.put, List.setIfInBounds_toArray, List.set_cons_zero, List.set_cons_succ]
  refine wpAnyH_done (by kernel_rfl) ?_ _
  skip
  obtain ⟨hq1, hq2⟩ := hq
  have q1 : ln ≤ 131072 := by simp at hq1; omega
  obtain ⟨bl, hbl⟩ : ∃ bl, ln / sz = bl := ⟨_, rfl⟩
  have HBL1 : Hid (bl * sz ≤ 131072) := Lib.hid (by rw [← hbl]; exact Nat.le_trans (Nat.div_mul_le_self _ _) q1)
  have hbn : bl ≤ ln := by rw [← hbl]; exact Nat.div_le_self _ _
  have hqd : (ln : Int).tdiv sz = bl := by rw [tdiv_of (by omega), ← hbl]; simp
  have hqw : IntKind.i64.wrap (bl : Int) = bl := IntWalk.i64_in _ (by omega)
  have hz0 : ((sz : Int) == 0) = false := by simp; omega
  have hz1 : ¬ (sz : Int) = 0 := by omega
  have hz2 : ¬ sz = 0 := by omega
  have HSB2 : Hid (dlB d = (if (decide (tot ≤ 131072) && decide (nn ≤ 2048)) = true ∧ s8.code = 0 then (match stepsO d bl sz tot s8 nn with | none => none | some (l, m, s) => if (decide (m = tot) && decide (Cod.rLeft d s = 0)) = true ∧ s.code = 0 then some ⟨wd, sz, ln, padT xs, padT zs, tot, l, padT_len _, padT_len _⟩ else none) else none)) := Lib.hid (by rw [HSB1.out, HOKH.out, if_pos ⟨decide_eq_true q1, hq2⟩, hbl])
  clear HSB1 hq1 hq2 HSO2 HOKH hHeld0 hHeld1 hHeld2 hHeld3 kn hw hz hbl
  obtain ⟨ys, hys⟩ : ∃ ys, padT xs = ys := ⟨_, rfl⟩
  have hyl : ys.length = 32 := by rw [← hys]; exact padT_len _
  obtain ⟨ts, hts⟩ : ∃ ys, padT zs = ys := ⟨_, rfl⟩
  have htl : ts.length = 32 := by rw [← hts]; exact padT_len _
  have HSB3 : Hid (dlB d = (if (decide (tot ≤ 131072) && decide (nn ≤ 2048)) = true ∧ s8.code = 0 then (match stepsO d bl sz tot s8 nn with | none => none | some (l, m, s) => if (decide (m = tot) && decide (Cod.rLeft d s = 0)) = true ∧ s.code = 0 then some ⟨wd, sz, ln, ys, ts, tot, l, hyl, htl⟩ else none) else none)) := Lib.hid (by subst hys hts; exact HSB2.out)
  rw [hys] at RID
  rw [hts] at RID2
  clear HSB2 hys hts HZC HW HBG HG1 HGI HGL HGN2 HGC HGN HZI
  have HYI := Lib.hid (hi26 hyl)
  have HYN := Lib.hid hyl
  have HYA : Hid ((bs ys).toArray.all (·.oneCell') = true) := Lib.hid (all_oneCell_toArray (bs_one ys))
  have HTI := Lib.hid (hi26 htl)
  have HTN := Lib.hid htl
  have HTA : Hid ((bs ts).toArray.all (·.oneCell') = true) := Lib.hid (all_oneCell_toArray (bs_one ts))
  have c4 := hS.bc.cell (i := 0) rfl
  have c0 : w'.cell? ⟨A, 0, none⟩ = some (.int .i64 (wd : Nat)) := dl_width hS.ba
  have HID1 := Lib.hid (RID.out _ hS.rd hwd.1 hwd.2)
  go_upto_region 6 with fail
  go_upto_region 7 with (first
    | (go_at_call 88; refine HID1.out.mono ?_; rintro e w2 ⟨rfl, hR2, k2⟩; have hS := hS.read hF k2 hR2; have hbs := dl_base_set HYN.out hS.ba)
    | (refine wpList_store_mid rfl 26 (.tmp 45) (.tmp 44) rfl A 3 (bs ys).toArray rfl rfl (by simpa [bs_length, HYN.out] using hbs.1) (by simpa using HYI.out) HYA.out ?_; rw [List.toList_toArray]; have hS := hS.put hF hbs.2.2 hbs.2.1)
    | fail)
  clear c4 c0 hbs HID1 RID
  obtain ⟨w3, hw3⟩ : ∃ w3, w2.setCells A 3 (bs ys) = w3 := ⟨_, rfl⟩
  rw [hw3] at hS ⊢
  clear hw3 hR2 k2
  have c4 := hS.bc.cell (i := 0) rfl
  have HN1 := Lib.hid (RN5.out _ hS.rd)
  go_upto_region 8 with (first
    | (go_at_call 87; refine HN1.out.mono ?_; rintro e w4 ⟨rfl, hR4, k4⟩; have hS := hS.read hF k4 hR4; have c67 := dl_total hS.ba; have f67 := hS.ba.free (i := 67))
    | fail)
  have hbt := dl_total_set tot hS.ba
  have hS := hS.put hF (Keep.set_one w4 ⟨A, 67, none⟩ _) hbt
  obtain ⟨w5, hw5⟩ : ∃ w5, w4.setCell ⟨A, 67, none⟩ (.int .i64 (tot : Nat)) = w5 := ⟨_, rfl⟩
  rw [hw5] at hS ⊢
  clear hw5 hR4 k4 c4 HN1 RN5 c67 f67 hbt
  have c4 := hS.bc.cell (i := 0) rfl
  have c0 : w5.cell? ⟨A, 0, none⟩ = some (.int .i64 (wd : Nat)) := dl_width hS.ba
  have HID1 := Lib.hid (RID2.out _ hS.rd hwd.1 hwd.2)
  go_upto_region 9 with (first
    | (go_at_call 88; refine HID1.out.mono ?_; rintro e w6 ⟨rfl, hR6, k6⟩; have hS := hS.read hF k6 hR6; have hbs := dl_target_set HTN.out hS.ba)
    | (refine wpList_store_mid rfl 26 (.tmp 54) (.tmp 53) rfl A 35 (bs ts).toArray rfl rfl (by simpa [bs_length, HTN.out] using hbs.1) (by simpa using HTI.out) HTA.out ?_; rw [List.toList_toArray]; have hS := hS.put hF hbs.2.2 hbs.2.1)
    | fail)
  clear c4 c0 hbs HID1 RID2
  obtain ⟨w7, hw7⟩ : ∃ w3, w6.setCells A 35 (bs ts) = w3 := ⟨_, rfl⟩
  rw [hw7] at hS ⊢
  clear hw7 hR6 k6
  have c4 := hS.bc.cell (i := 0) rfl
  have HN1 := Lib.hid (RN7.out _ hS.rd)
  go_upto_region 10 with (first
    | (go_at_call 87; refine HN1.out.mono ?_; rintro e w8 ⟨rfl, hR8, k8⟩; have hS := hS.read hF k8 hR8)
    | fail)
  clear c4 hR8 k8 HN1 RN7 HYI HYA HTI HTA
  have c4 := hS.bc.cell (i := 0) rfl
  have c67 : w8.cell? ⟨A, 67, none⟩ = some (.int .i64 (tot : Nat)) := dl_total hS.ba
  by_cases t1 : tot ≤ 131072
  case neg =>
    have u1 : decide ((tot : Int) ≤ 131072) = false := decide_eq_false (by omega)
    have HNO := Lib.hid (HSO3.out (fun h => by have h := h.1; simp only [Bool.and_eq_true, decide_eq_true_eq] at h; exact t1 h.1))
    go_wp2_with (first
      | (go_at_call 85; refine (ask_no P S d s8 false _ hS.rd (Or.inl rfl)).mono ?_; rintro e w9 ⟨rfl, k9⟩; have hS := hS.keep0 k9)
      | fail)
    exact door rfl rfl rfl hS.ba hS.bb hF.ab Try.underlying89 rfl (hi89 _ _ _ _) (give_noD (HNO.out) hS.k hF.b)
  have u1 : decide ((tot : Int) ≤ 131072) = true := decide_eq_true (by omega)
  by_cases t2 : nn ≤ 2048
  case neg =>
    have u2 : decide ((nn : Int) ≤ 2048) = false := decide_eq_false (by omega)
    have HNO := Lib.hid (HSO3.out (fun h => by have h := h.1; simp only [Bool.and_eq_true, decide_eq_true_eq] at h; exact t2 h.2))
    go_wp2_with (first
      | (go_at_call 85; refine (ask_no P S d s8 false _ hS.rd (Or.inl rfl)).mono ?_; rintro e w9 ⟨rfl, k9⟩; have hS := hS.keep0 k9)
      | fail)
    exact door rfl rfl rfl hS.ba hS.bb hF.ab Try.underlying89 rfl (hi89 _ _ _ _) (give_noD (HNO.out) hS.k hF.b)
  have u2 : decide ((nn : Int) ≤ 2048) = true := decide_eq_true (by omega)
  by_cases t3 : s8.code = 0
  case neg =>
    have HNO := Lib.hid (HSO3.out (fun h => t3 h.2))
    have T3 := Lib.hid t3
    clear t3
    go_wp2_with (first
      | (go_at_call 85; refine (ask_no P S d s8 true _ hS.rd (Or.inr T3.out)).mono ?_; rintro e w9 ⟨rfl, k9⟩; have hS := hS.keep0 k9)
      | fail)
    exact door rfl rfl rfl hS.ba hS.bb hF.ab Try.underlying89 rfl (hi89 _ _ _ _) (give_noD (HNO.out) hS.k hF.b)
  have HSB4 : Hid (dlB d = (match stepsO d bl sz tot s8 nn with | none => none | some (l, m, s) => if (decide (m = tot) && decide (Cod.rLeft d s = 0)) = true ∧ s.code = 0 then some ⟨wd, sz, ln, ys, ts, tot, l, hyl, htl⟩ else none)) := Lib.hid (by rw [HSB3.out, if_pos ⟨by rw [decide_eq_true t1, decide_eq_true t2]; rfl, t3⟩])
  have T3 := Lib.hid t3
  have HSO4 := Lib.hid (show ∀ k, k ≤ nn → stepsO d bl sz tot s8 k = none → dlO D = none from fun k hk h => by rw [HSO.out, HSB4.out, stepsO_no h hk])
  clear t3 HSB3 HSO3
  go_upto_region 11 with (first
    | (go_at_call 85; refine (ask_yes P S d s8 _ hS.rd T3.out).mono ?_; rintro e w9 ⟨rfl, k9⟩; have hS := hS.keep0 k9)
    | fail)
  clear c4 c67 k9 u1 u2
  obtain ⟨X, hX⟩ : ∃ X, Dl.mk wd sz ln ys ts tot [] hyl htl = X := ⟨_, rfl⟩
  have hX1 : X.width = wd := by rw [← hX]
  have hX2 : X.size = sz := by rw [← hX]
  have hX3 : X.length = ln := by rw [← hX]
  have hX4 : X.total = tot := by rw [← hX]
  have HXM : Hid (∀ l, Dl.mk wd sz ln ys ts tot l hyl htl = ⟨X.width, X.size, X.length, X.base, X.target, X.total, l, X.lb, X.lt⟩) := Lib.hid (fun l => by subst hX; rfl)
  have HX1 := Lib.hid hX1
  have HX2 := Lib.hid hX2
  have HX3 := Lib.hid hX3
  have HX4 := Lib.hid hX4
  rw [hX] at hS
  clear hX1 hX2 hX3 hX4 hX
  go_upto_region 13 with fail
  have hPS0 : PLd w A B C P S d X bl s8 nn (.int .i64 0) (.int .i64 ((0 : Nat) : Int)) w9 := ⟨0, 0, [], s8, none, 0, [], by omega, rfl, rfl, Lib.hid rfl, hS, Sl.nil _ _ _, StL.nil _, by intro b hb; simp [blks, Value.ownBlock] at hb, by intro v hv; cases hv⟩
  clear hS
  go_loopw [6, 68] (fun v6 v68 wr => PLd w A B C P S d X bl s8 nn v6 v68 wr) (fun _ v68 _ => nn - (intOf v68).toNat)
  case atStart => exact hPS0
  case round =>
    clear hPS0
    obtain ⟨i, m, l, s, ao, co, vs, hi, rfl, rfl, HM, hS, hs, hL, hO, hV⟩ := hrel
    have hml := stepsO_len HM.out
    rw [HX4.out] at hml
    have hm1 : m ≤ 131072 := by have := hml.2; omega
    by_cases hlt : i < nn
    · have i1 : (i : Int) < nn := by omega
      have ST := Lib.hid (step_any P S d s bl)
      have HST := Lib.hid (show stepO d s bl = none → dlO D = none from fun h => HSO4.out (i + 1) (by omega) (by rw [← HX2.out, ← HX4.out, stepsO, HM.out]; simp only [h]))
      have HLL := Lib.hid hml
      have HV := Lib.hid hV
      have HO := Lib.hid hO
      clear hV hO hml
      have hS := hS.drew
      have hs := hs.keep ((Keep.refl [] wr).drew) (by simp)
      have hL := hL.keep ((Keep.refl [] wr).drew) (by simp)
      go_upto_region 14 with fail
      refine wp_region_held_drew (S := fun w' => w'.cell? ⟨C, 0, none⟩ = some (.pointer (some ⟨P, 0, none⟩)) ∧ w'.cell? ⟨A, 1, none⟩ = some (.int .i64 (sz : Nat)) ∧ w'.cell? ⟨A, 2, none⟩ = some (.int .i64 (ln : Nat))) (by kernel_rfl) ?_ (fun hHeld0 => ?_)
      · (try dsimp only); exact ⟨hS.bc.cell (i := 0) rfl, by rw [← HX2.out]; exact dl_size hS.ba, by rw [← HX3.out]; exact dl_length hS.ba⟩
      refine wpAnyH_take (i := 0) (oi := ({ dst := some 70, op := .load 140 (.tmp 4), type := 140, pos := "apply.go:45", after := #[], guard := none } : Oper)) (v := ?_) rfl (by kernel_rfl) (by kernel_rfl) (by kernel_rfl) (fun c a w h => back23 rfl 70 (by decide) (by decide) c a _ w h) (Or.inl ⟨by rfl, ?_⟩) (by assumption) ?_
      rotate_left
      · (intro w hSw; (try dsimp only at hSw); have q1 := hSw.1; go_simp; try with_reducible rfl)
      try simp only [Act.put, List.setIfInBounds_toArray, List.set_cons_zero, List.set_cons_succ]
      refine wpAnyH_take (i := 1) (oi := ({ dst := some 71, op := .fieldAddr 89 (.tmp 2) 2, type := 0, pos := "apply.go:45", after := #[], guard := none } : Oper)) (v := ?_) rfl (by kernel_rfl) (by kernel_rfl) (by kernel_rfl) (fun c a w h => back23 rfl 71 (by decide) (by decide) c a _ w h) (Or.inl ⟨by rfl, ?_⟩) (by assumption) ?_
      rotate_left
      · (intro w hSw; (try dsimp only at hSw); go_simp; try with_reducible rfl)
      try simp only [Act.put, List.setIfInBounds_toArray, List.set_cons_zero, List.set_cons_succ]
      refine wpAnyH_take (i := 2) (oi := ({ dst := some 72, op := .load 3 (.tmp 71), type := 3, pos := "apply.go:45", after := #[{ on := 1, ground := .data }], guard := none } : Oper)) (v := ?_) rfl (by kernel_rfl) (by kernel_rfl) (by kernel_rfl) (fun c a w h => back23 rfl 72 (by decide) (by decide) c a _ w h) (Or.inl ⟨by rfl, ?_⟩) (by assumption) ?_
      rotate_left
      · (intro w hSw; (try dsimp only at hSw); have q1 := hSw.2.2; go_simp; try with_reducible rfl)
      try simp only [Act.put, List.setIfInBounds_toArray, List.set_cons_zero, List.set_cons_succ]
      refine wpAnyH_take (i := 3) (oi := ({ dst := some 73, op := .fieldAddr 89 (.tmp 2) 1, type := 0, pos := "apply.go:45", after := #[], guard := none } : Oper)) (v := ?_) rfl (by kernel_rfl) (by kernel_rfl) (by kernel_rfl) (fun c a w h => back23 rfl 73 (by decide) (by decide) c a _ w h) (Or.inl ⟨by rfl, ?_⟩) (by assumption) ?_
      rotate_left
      · (intro w hSw; (try dsimp only at hSw); go_simp; try with_reducible rfl)
      try simp only [Act.put, List.setIfInBounds_toArray, List.set_cons_zero, List.set_cons_succ]
      refine wpAnyH_take (i := 4) (oi := ({ dst := some 74, op := .load 3 (.tmp 73), type := 3, pos := "apply.go:45", after := #[{ on := 3, ground := .data }], guard := none } : Oper)) (v := ?_) rfl (by kernel_rfl) (by kernel_rfl) (by kernel_rfl) (fun c a w h => back23 rfl 74 (by decide) (by decide) c a _ w h) (Or.inl ⟨by rfl, ?_⟩) (by assumption) ?_
      rotate_left
      · (intro w hSw; (try dsimp only at hSw); have q1 := hSw.2.1; go_simp; try with_reducible rfl)
      try simp only [Act.put, List.setIfInBounds_toArray, List.set_cons_zero, List.set_cons_succ]
      refine wpAnyH_take (i := 5) (oi := ({ dst := some 75, op := .binOp .quo 3 (.tmp 72) (.tmp 74) 3, type := 3, pos := "apply.go:45", after := #[{ on := 2, ground := .data }, { on := 4, ground := .data }], guard := none } : Oper)) (v := ?_) rfl (by kernel_rfl) (by kernel_rfl) (by kernel_rfl) (fun c a w h => back23 rfl 75 (by decide) (by decide) c a _ w h) (Or.inl ⟨by rfl, ?_⟩) (by assumption) ?_
      rotate_left
      · (intro w hSw; (try dsimp only at hSw); go_simp; try with_reducible rfl)
      try simp only [Act.put, List.setIfInBounds_toArray, List.set_cons_zero, List.set_cons_succ]
      refine wpAnyH_ready (rs := [6]) (by kernel_rfl) (by simp) ?_
      refine (AllReadyH.cons (o := ({ dst := some 76, op := .call { callee := .value (.func 89), args := #[.tmp 70, .tmp 75], argTypes := #[140, 3] }, type := 93, pos := "apply.go:45", after := #[{ on := 0, ground := .data }, { on := 5, ground := .data }], guard := none } : Oper)) rfl (fun K hK => ?_) AllReadyH.nil)
      go_simp
      (refine (ST.out _ hS.rd (by omega) HDL.out).mono ?_; rintro e w' ⟨kn, hg⟩; rcases hst : stepO d s bl with _ | ⟨x, s'⟩; (· rw [hst] at hg; subst hg; go_wp2_with fail; exact door rfl rfl rfl (hS.ba.keep kn (by simpa using hF.ap)) (hS.bb.keep kn (by simpa using hF.bp)) hF.ab Try.underlying89 rfl (hi89 _ _ _ _) (give_noD (HST.out hst) (hS.k.trans kn (fun b hb => by simp only [List.mem_singleton] at hb; subst hb; exact Or.inr hF.pw)) hF.b)); rw [hst] at hg; obtain ⟨v, rfl, hvx, hRn, hfv, hvb⟩ := hg; have hslt0 := hs.lt; have kw9 := hS.k; have hSlt := hS; have hS := hS.read hF kn hRn; have hs := hs.keep kn (fun b hb hb' => by simp only [List.mem_singleton] at hb'; subst hb'; exact (HO.out b hb).2.2.2.1 hF.p); have hL := hL.keep kn (fun u hu b hb hb' => by simp only [List.mem_singleton] at hb'; subst hb'; exact (HV.out u hu b hb).2.2.2.1 hF.p); have hwr9 : wr.heap.size ≤ w'.heap.size := kn.size)
      go_wp2_with fail
      refine hK.out _ _ ?_ (fun hHeld1 => ?_)
      · (try dsimp only); exact ⟨hS.bc.cell (i := 0) rfl, by rw [← HX2.out]; exact dl_size hS.ba, by rw [← HX3.out]; exact dl_length hS.ba⟩
      clear hK K
      try simp only [Act.put, List.setIfInBounds_toArray, List.set_cons_zero, List.set_cons_succ]
      refine wpAnyH_take (i := 7) (oi := ({ dst := some 7, op := .assign (.tmp 76), type := 93, pos := "apply.go:45", after := #[{ on := 6, ground := .data }, { on := 6, ground := .chain }, { on := 0, ground := .phase }, { on := 1, ground := .phase }, { on := 2, ground := .phase }, { on := 3, ground := .phase }, { on := 4, ground := .phase }, { on := 5, ground := .phase }, { on := 6, ground := .phase }], guard := none } : Oper)) (v := ?_) rfl (by kernel_rfl) (by kernel_rfl) (by kernel_rfl) (fun c a w h => back23 rfl 7 (by decide) (by decide) c a _ w h) (Or.inl ⟨by rfl, ?_⟩) (by assumption) ?_
      rotate_left
      · (intro w hSw; (try dsimp only at hSw); go_simp; try with_reducible rfl)
      try simp only [Act.put, List.setIfInBounds_toArray, List.set_cons_zero, List.set_cons_succ]
      refine wpAnyH_done (by kernel_rfl) ?_ _
      skip
      have HST2 := Lib.hid hst
      obtain ⟨hxl, hxc⟩ := stepO_some hst HBL1.out HDL.out
      obtain ⟨L, hLn⟩ : ∃ L, x.len sz = L := ⟨_, rfl⟩
      obtain ⟨M, hMn⟩ : ∃ M, m + L = M := ⟨_, rfl⟩
      rw [hLn] at hxl
      have hM1 : (m : Int) + L = M := by omega
      have hM2 : IntKind.i64.wrap (M : Int) = M := IntWalk.i64_in _ (by omega)
      have HSK : Hid (stepsO d bl X.size X.total s8 (i + 1) = if M ≤ tot ∧ s'.code = 0 then some (l ++ [x], M, s') else none) := Lib.hid (by rw [stepsO, HM.out]; simp only [hst]; rw [HX2.out, HX4.out, hLn, hMn])
      have hv9 : ∀ b ∈ stb v, b ≠ A ∧ b ≠ B ∧ b ≠ C ∧ b ∉ S ∧ w.heap.size ≤ b ∧ b ∉ blks (.slice ao i co) := fun b hb => by
        have h0 := fr_old hfv b hb
        have h1 := hSlt.ba.lt
        have h2 := hSlt.bb.lt
        have h3 := hSlt.bc.lt
        have h4 := hSlt.rd.lt
        have h5 := hSlt.k.size
        exact ⟨by omega, by omega, by omega, fun h6 => by have := h4 b h6; omega, by omega, fun h6 => by have := hslt0 b h6; omega⟩
      have HV9 := Lib.hid hv9
      have HVB := Lib.hid hvb
      have HXC := Lib.hid hxc
      have HLN := Lib.hid hLn
      have HSO5 := Lib.hid (show ¬ M ≤ tot → dlO D = none from fun h => HSO4.out (i + 1) (by omega) (by rw [← HX2.out, ← HX4.out, HSK.out, if_neg (fun h2 => h h2.1)]))
      clear hst hxc hMn hv9 hvb hfv kw9 hSlt hslt0 ST HST hHeld0 hHeld1 kn hRn
      have HVX := Lib.hid hvx
      have HV1 := Lib.hid hvx.one
      have c1 : w'.cell? ⟨A, 1, none⟩ = some (.int .i64 (sz : Nat)) := by rw [← HX2.out]; exact dl_size hS.ba
      go_upto_region 15 with fail
      go_cut [6] from 77 to 82 (fun v6 wc => v6 = .int .i64 (M : Nat) ∧ Keep [] w' wc)
      case first =>
        cases x with
        | cp f cn =>
          have hv0 : v = .iface 95 (.agg #[.int .i64 (f : Nat), .int .i64 (cn : Nat)]) := hvx
          have hc1 := stepO_cp HST2.out
          have HCL := Lib.hid (by have := len95 f cn sz w' (by omega) hsz.2; rwa [show cn * sz = L from hLn] at this : Calls Try.prog 139 #[.agg #[.int .i64 (f : Nat), .int .i64 (cn : Nat)], .int .i64 (sz : Nat)] w' fun e w2 => e = .returned (.int .i64 (L : Nat)) ∧ Keep [] w' w2)
          subst hv0
          clear hvx hLn
          go_wp2_with (first
            | (go_at_call 139; refine HCL.out.mono ?_; rintro e w2 ⟨rfl, k2⟩)
            | fail)
          go_meet
          case rel => exact ⟨rfl, k2⟩
        | lit us =>
          obtain ⟨va, vn, vc, hv0, hIn⟩ := hvx
          have hl0 : vn = L := by rw [← hLn]; exact hIn.hlen.symm
          subst hv0 hl0
          have HCL := Lib.hid (len97 va vn vc sz w')
          clear hIn hLn
          go_wp2_with (first
            | (go_at_call 140; refine HCL.out.mono ?_; rintro e w2 ⟨rfl, k2⟩)
            | fail)
          go_meet
          case rel => exact ⟨rfl, k2⟩
      case rest =>
        obtain ⟨rfl, kc⟩ := hcut
        have hS := hS.keep0 kc
        have hs := hs.keep kc (by simp)
        have hL := hL.keep kc (by simp)
        have hvx := HVX.out.keep kc (by simp)
        clear c1 hLn hM1 hM2
        have c4 := hS.bc.cell (i := 0) rfl
        have c67 : wc.cell? ⟨A, 67, none⟩ = some (.int .i64 (tot : Nat)) := by rw [← HX4.out]; exact dl_total hS.ba
        by_cases t5 : M ≤ tot
        case neg =>
          have u5 : decide ((M : Int) ≤ tot) = false := decide_eq_false (by omega)
          go_wp2_with (first
            | (go_at_call 85; refine (ask_no P S d s' false _ hS.rd (Or.inl rfl)).mono ?_; rintro e w9 ⟨rfl, k9⟩; have hS := hS.keep0 k9)
            | fail)
          exact door rfl rfl rfl hS.ba hS.bb hF.ab Try.underlying89 rfl (hi89 _ _ _ _) (give_noD (HSO5.out t5) hS.k hF.b)
        have u5 : decide ((M : Int) ≤ tot) = true := decide_eq_true (by omega)
        have HSK2 : Hid (stepsO d bl X.size X.total s8 (i + 1) = some (l ++ [x], M, s')) := Lib.hid (by rw [HSK.out, if_pos ⟨t5, HXC.out⟩])
        clear HSK HSO5
        go_upto_region 17 with (first
          | (go_at_call 85; refine (ask_yes P S d s' _ hS.rd HXC.out).mono ?_; rintro e w9 ⟨rfl, k9⟩; have hS := hS.keep0 k9)
          | fail)
        have hs := hs.keep k9 (by simp)
        have hL := hL.keep k9 (by simp)
        have hvx := hvx.keep k9 (by simp)
        clear c4 c67
        have c68 := dl_steps hS.ba
        have hi2 : (i + 1) * 16 ≤ 140737488355328 ∧ i + 1 ≤ maxLen := by simp only [maxLen]; omega
        have HI2 := Lib.hid hi2
        clear hi2
        go_upto_region 18 with (first
          | (refine wpList_buildV rfl 83 93 (.tmp 91) rfl v HV1.out rfl .nilIface 16 Try.underlying83 info93 rfl ?_)
          | (at_builtin; go_must (refine wpList_append1 w9 rfl (.tmp 90) (.tmp 92) 83 rfl 93 .nilIface 16 Try.underlying83 info93 rfl v HV1.out (.slice ao i co) i vs rfl hs rfl HI2.out.2 HI2.out.1 ?_; intro a6 c6 w6 hs6 hk6 hf6; have hSb := hS; have hS := hS.keep hk6 HO.out; have c68' := dl_steps hS.ba; have f68 := hS.ba.free (i := 68)))
          | fail)
        have bA := dl_steps_set a6 (i + 1) c6 hS.ba
        have ks := Keep.set_one w6 ⟨A, 68, none⟩ (.slice a6 (i + 1) c6)
        have hS2 := hS.put hF ks bA
        have hO6 : ∀ b ∈ blks (.slice a6 (i + 1) c6), b ≠ A ∧ b ≠ B ∧ b ≠ C ∧ b ∉ S ∧ w.heap.size ≤ b := fun b hb => by
          rcases hf6 b hb with h | h
          · exact HO.out b h
          · have h1 := hSb.ba.lt
            have h2 := hSb.bb.lt
            have h3 := hSb.bc.lt
            have h4 := hSb.rd.lt
            have h5 := hSb.k.size
            exact ⟨by omega, by omega, by omega, fun h6 => by have := h4 b h6; omega, by omega⟩
        have hs7 := hs6.keep ks (fun b hb hb' => by simp only [List.mem_singleton] at hb'; exact (hO6 b hb).1 hb')
        have hV9 : ∀ u ∈ vs ++ [v], ∀ b ∈ stb u, b ≠ A ∧ b ≠ B ∧ b ≠ C ∧ b ∉ S ∧ w.heap.size ≤ b ∧ b ∉ blks (.slice ao i co) ∧ b < w9.heap.size := fun u hu b hb => by
          rcases List.mem_append.1 hu with h | h
          · obtain ⟨g1, g2, g3, g4, g5, g6, g7⟩ := HV.out u h b hb
            exact ⟨g1, g2, g3, g4, g5, g6, Nat.lt_of_lt_of_le g7 (Nat.le_trans hwr9 (Nat.le_trans kc.size k9.size))⟩
          · obtain rfl : u = v := by simpa using h
            obtain ⟨g1, g2, g3, g4, g5, g6⟩ := HV9.out b hb
            exact ⟨g1, g2, g3, g4, g5, g6, Nat.lt_of_lt_of_le (HVB.out b hb) (Nat.le_trans kc.size k9.size)⟩
        have hL7 := ((hL.snoc hvx).keep hk6 (fun u hu b hb h => (hV9 u hu b hb).2.2.2.2.2.1 h)).keep ks (fun u hu b hb hb' => by simp only [List.mem_singleton] at hb'; exact (hV9 u hu b hb).1 hb')
        go_wp2_with fail
        exact ⟨⟨i + 1, M, l ++ [x], s', a6, c6, vs ++ [v], by omega, by go_num, rfl, HSK2, hS2, hs7, hL7, hO6, fun u hu b hb => by
          obtain ⟨g1, g2, g3, g4, g5, g6, g7⟩ := hV9 u hu b hb
          exact ⟨g1, g2, g3, g4, g5, fun h => by rcases hf6 b h with h8 | h8; exact g6 h8; omega, Nat.lt_of_lt_of_le g7 (Nat.le_trans hk6.size ks.size)⟩⟩, by simp [intOf]; omega⟩
    · obtain rfl : i = nn := by omega
      have i2 : ¬ (i : Int) < i := by omega
      obtain ⟨lf, hlf⟩ : ∃ lf, Cod.rLeft d s = lf := ⟨_, rfl⟩
      have RL := Lib.hid (fun W h => by have := Cod.rleft_any P S d s W h; rw [hlf] at this; exact this : ∀ W, RdAt W P S d s → Calls Try.prog 90 #[.pointer (some ⟨P, 0, none⟩)] W fun e w' => e = .returned (.int .i64 (lf : Nat)) ∧ RdAt w' P S d s ∧ Keep [] W w')
      have HSB5 : Hid (dlB d = (if (decide (m = tot) && decide (lf = 0)) = true ∧ s.code = 0 then some ⟨X.width, X.size, X.length, X.base, X.target, X.total, l, X.lb, X.lt⟩ else none)) := Lib.hid (by
        have h := HM.out
        rw [HX2.out, HX4.out] at h
        rw [HSB4.out, h]; simp only [hlf]; rw [HXM.out l])
      have HNO := Lib.hid (show ¬ ((decide (m = tot) && decide (lf = 0)) = true ∧ s.code = 0) → dlO D = none from fun h => by rw [HSO.out, HSB5.out, if_neg h])
      have HLL := Lib.hid hml
      have HO := Lib.hid hO
      have HV := Lib.hid hV
      clear hlf HSB4 hml HM hO hV
      have hS := hS.drew
      have hs := hs.keep ((Keep.refl [] wr).drew) (by simp)
      have hL := hL.keep ((Keep.refl [] wr).drew) (by simp)
      go_upto_region 19 with fail
      by_cases t6 : m = tot
      case neg =>
        have u6 : ((m : Int) == tot) = false := by simp; omega
        have HNO2 := Lib.hid (HNO.out (fun h => by have h := h.1; simp only [Bool.and_eq_true, decide_eq_true_eq] at h; exact t6 h.1))
        clear t6
        refine wp_region_held_drew (S := fun w' => w'.cell? ⟨C, 0, none⟩ = some (.pointer (some ⟨P, 0, none⟩)) ∧ w'.cell? ⟨A, 67, none⟩ = some (.int .i64 (tot : Nat))) (by kernel_rfl) ?_ (fun hHeld0 => ?_)
        · (try dsimp only); exact ⟨hS.bc.cell (i := 0) rfl, by rw [← HX4.out]; exact dl_total hS.ba⟩
        refine wpAnyH_take (i := 0) (oi := ({ dst := some 96, op := .load 140 (.tmp 4), type := 140, pos := "apply.go:50", after := #[], guard := none } : Oper)) (v := ?_) rfl (by kernel_rfl) (by kernel_rfl) (by kernel_rfl) (fun c a w h => back23 rfl 96 (by decide) (by decide) c a _ w h) (Or.inl ⟨by rfl, ?_⟩) (by assumption) ?_
        rotate_left
        · (intro w hSw; (try dsimp only at hSw); have q1 := hSw.1; go_simp; try with_reducible rfl)
        try simp only [Act.put, List.setIfInBounds_toArray, List.set_cons_zero, List.set_cons_succ]
        refine wpAnyH_take (i := 1) (oi := ({ dst := some 97, op := .move (.tmp 6), type := 3, pos := "apply.go:50", after := #[], guard := none } : Oper)) (v := ?_) rfl (by kernel_rfl) (by kernel_rfl) (by kernel_rfl) (fun c a w h => back23 rfl 97 (by decide) (by decide) c a _ w h) (Or.inl ⟨by rfl, ?_⟩) (by assumption) ?_
        rotate_left
        · (intro w hSw; (try dsimp only at hSw); go_simp; try with_reducible rfl)
        try simp only [Act.put, List.setIfInBounds_toArray, List.set_cons_zero, List.set_cons_succ]
        refine wpAnyH_take (i := 2) (oi := ({ dst := some 98, op := .fieldAddr 89 (.tmp 2) 5, type := 0, pos := "apply.go:50", after := #[], guard := none } : Oper)) (v := ?_) rfl (by kernel_rfl) (by kernel_rfl) (by kernel_rfl) (fun c a w h => back23 rfl 98 (by decide) (by decide) c a _ w h) (Or.inl ⟨by rfl, ?_⟩) (by assumption) ?_
        rotate_left
        · (intro w hSw; (try dsimp only at hSw); go_simp; try with_reducible rfl)
        try simp only [Act.put, List.setIfInBounds_toArray, List.set_cons_zero, List.set_cons_succ]
        refine wpAnyH_take (i := 3) (oi := ({ dst := some 99, op := .load 3 (.tmp 98), type := 3, pos := "apply.go:50", after := #[{ on := 2, ground := .data }], guard := none } : Oper)) (v := ?_) rfl (by kernel_rfl) (by kernel_rfl) (by kernel_rfl) (fun c a w h => back23 rfl 99 (by decide) (by decide) c a _ w h) (Or.inl ⟨by rfl, ?_⟩) (by assumption) ?_
        rotate_left
        · (intro w hSw; (try dsimp only at hSw); have q1 := hSw.2; go_simp; try with_reducible rfl)
        try simp only [Act.put, List.setIfInBounds_toArray, List.set_cons_zero, List.set_cons_succ]
        refine wpAnyH_take (i := 4) (oi := ({ dst := some 100, op := .binOp .eql 3 (.tmp 97) (.tmp 99) 3, type := 4, pos := "apply.go:50", after := #[{ on := 1, ground := .data }, { on := 3, ground := .data }], guard := none } : Oper)) (v := ?_) rfl (by kernel_rfl) (by kernel_rfl) (by kernel_rfl) (fun c a w h => back23 rfl 100 (by decide) (by decide) c a _ w h) (Or.inl ⟨by rfl, ?_⟩) (by assumption) ?_
        rotate_left
        · (intro w hSw; (try dsimp only at hSw); go_simp; try with_reducible rfl)
        try simp only [Act.put, List.setIfInBounds_toArray, List.set_cons_zero, List.set_cons_succ]
        refine wpAnyH_take (i := 5) (oi := ({ dst := some 101, op := .move (.tmp 100), type := 4, pos := "apply.go:50", after := #[{ on := 4, ground := .data }], guard := none } : Oper)) (v := ?_) rfl (by kernel_rfl) (by kernel_rfl) (by kernel_rfl) (fun c a w h => back23 rfl 101 (by decide) (by decide) c a _ w h) (Or.inl ⟨by rfl, ?_⟩) (by assumption) ?_
        rotate_left
        · (intro w hSw; (try dsimp only at hSw); go_simp; try with_reducible rfl)
        try simp only [Act.put, List.setIfInBounds_toArray, List.set_cons_zero, List.set_cons_succ]
        refine wpAnyH_take (i := 6) (oi := ({ dst := some 102, op := .fieldAddr 140 (.tmp 4) 0, type := 0, pos := "apply.go:50", after := #[{ on := 5, ground := .guard }], guard := some (5, true) } : Oper)) (v := undef) rfl (by kernel_rfl) (by kernel_rfl) (by kernel_rfl) (fun c a w h => back23 rfl 102 (by decide) (by decide) c a _ w h) (Or.inr ⟨by rfl, rfl⟩) (by assumption) ?_
        try simp only [Act.put, List.setIfInBounds_toArray, List.set_cons_zero, List.set_cons_succ]
        refine wpAnyH_take (i := 7) (oi := ({ dst := some 103, op := .load 138 (.tmp 102), type := 138, pos := "apply.go:50", after := #[{ on := 6, ground := .data }, { on := 5, ground := .guard }], guard := some (5, true) } : Oper)) (v := undef) rfl (by kernel_rfl) (by kernel_rfl) (by kernel_rfl) (fun c a w h => back23 rfl 103 (by decide) (by decide) c a _ w h) (Or.inr ⟨by rfl, rfl⟩) (by assumption) ?_
        try simp only [Act.put, List.setIfInBounds_toArray, List.set_cons_zero, List.set_cons_succ]
        refine wpAnyH_take (i := 8) (oi := ({ dst := some 104, op := .call { callee := .value (.func 90), args := #[.tmp 103], argTypes := #[138] }, type := 3, pos := "apply.go:50", after := #[{ on := 7, ground := .data }, { on := 5, ground := .chain }, { on := 5, ground := .guard }], guard := some (5, true) } : Oper)) (v := undef) rfl (by kernel_rfl) (by kernel_rfl) (by kernel_rfl) (fun c a w h => back23 rfl 104 (by decide) (by decide) c a _ w h) (Or.inr ⟨by rfl, rfl⟩) (by assumption) ?_
        try simp only [Act.put, List.setIfInBounds_toArray, List.set_cons_zero, List.set_cons_succ]
        refine wpAnyH_take (i := 9) (oi := ({ dst := some 105, op := .binOp .eql 3 (.tmp 104) (.const (.int .i64 0)) 3, type := 4, pos := "apply.go:50", after := #[{ on := 8, ground := .data }, { on := 5, ground := .guard }], guard := some (5, true) } : Oper)) (v := undef) rfl (by kernel_rfl) (by kernel_rfl) (by kernel_rfl) (fun c a w h => back23 rfl 105 (by decide) (by decide) c a _ w h) (Or.inr ⟨by rfl, rfl⟩) (by assumption) ?_
        try simp only [Act.put, List.setIfInBounds_toArray, List.set_cons_zero, List.set_cons_succ]
        refine wpAnyH_take (i := 10) (oi := ({ dst := some 106, op := .pick (.tmp 101) (.tmp 105) (.const (.bool false)), type := 4, pos := "apply.go:50", after := #[{ on := 5, ground := .data }, { on := 9, ground := .data }], guard := none } : Oper)) (v := ?_) rfl (by kernel_rfl) (by kernel_rfl) (by kernel_rfl) (fun c a w h => back23 rfl 106 (by decide) (by decide) c a _ w h) (Or.inl ⟨by rfl, ?_⟩) (by assumption) ?_
        rotate_left
        · (intro w hSw; (try dsimp only at hSw); go_simp; try with_reducible rfl)
        try simp only [Act.put, List.setIfInBounds_toArray, List.set_cons_zero, List.set_cons_succ]
        refine wpAnyH_ready (rs := [11]) (by kernel_rfl) (by simp) ?_
        refine (AllReadyH.cons (o := ({ dst := some 107, op := .call { callee := .value (.func 85), args := #[.tmp 96, .tmp 106], argTypes := #[140, 4] }, type := 0, pos := "apply.go:50", after := #[{ on := 0, ground := .data }, { on := 10, ground := .data }, { on := 8, ground := .chain }], guard := none } : Oper)) rfl (fun K hK => ?_) AllReadyH.nil)
        go_simp
        (refine (ask_no P S d s false _ hS.rd (Or.inl rfl)).mono ?_; rintro e w' ⟨rfl, kn⟩; have hS := hS.keep0 kn)
        go_wp2_with fail
        exact door rfl rfl rfl hS.ba hS.bb hF.ab Try.underlying89 rfl (hi89 _ _ _ _) (give_noD (HNO2.out) hS.k hF.b)
      have u6 : ((m : Int) == tot) = true := by simp; omega
      have HT6 := Lib.hid t6
      clear t6
      refine wp_region_held_drew (S := fun w' => w'.cell? ⟨C, 0, none⟩ = some (.pointer (some ⟨P, 0, none⟩)) ∧ w'.cell? ⟨A, 67, none⟩ = some (.int .i64 (tot : Nat))) (by kernel_rfl) ?_ (fun hHeld0 => ?_)
      · (try dsimp only); exact ⟨hS.bc.cell (i := 0) rfl, by rw [← HX4.out]; exact dl_total hS.ba⟩
      refine wpAnyH_take (i := 0) (oi := ({ dst := some 96, op := .load 140 (.tmp 4), type := 140, pos := "apply.go:50", after := #[], guard := none } : Oper)) (v := ?_) rfl (by kernel_rfl) (by kernel_rfl) (by kernel_rfl) (fun c a w h => back23 rfl 96 (by decide) (by decide) c a _ w h) (Or.inl ⟨by rfl, ?_⟩) (by assumption) ?_
      rotate_left
      · (intro w hSw; (try dsimp only at hSw); have q1 := hSw.1; go_simp; try with_reducible rfl)
      try simp only [Act.put, List.setIfInBounds_toArray, List.set_cons_zero, List.set_cons_succ]
      refine wpAnyH_take (i := 1) (oi := ({ dst := some 97, op := .move (.tmp 6), type := 3, pos := "apply.go:50", after := #[], guard := none } : Oper)) (v := ?_) rfl (by kernel_rfl) (by kernel_rfl) (by kernel_rfl) (fun c a w h => back23 rfl 97 (by decide) (by decide) c a _ w h) (Or.inl ⟨by rfl, ?_⟩) (by assumption) ?_
      rotate_left
      · (intro w hSw; (try dsimp only at hSw); go_simp; try with_reducible rfl)
      try simp only [Act.put, List.setIfInBounds_toArray, List.set_cons_zero, List.set_cons_succ]
      refine wpAnyH_take (i := 2) (oi := ({ dst := some 98, op := .fieldAddr 89 (.tmp 2) 5, type := 0, pos := "apply.go:50", after := #[], guard := none } : Oper)) (v := ?_) rfl (by kernel_rfl) (by kernel_rfl) (by kernel_rfl) (fun c a w h => back23 rfl 98 (by decide) (by decide) c a _ w h) (Or.inl ⟨by rfl, ?_⟩) (by assumption) ?_
      rotate_left
      · (intro w hSw; (try dsimp only at hSw); go_simp; try with_reducible rfl)
      try simp only [Act.put, List.setIfInBounds_toArray, List.set_cons_zero, List.set_cons_succ]
      refine wpAnyH_take (i := 3) (oi := ({ dst := some 99, op := .load 3 (.tmp 98), type := 3, pos := "apply.go:50", after := #[{ on := 2, ground := .data }], guard := none } : Oper)) (v := ?_) rfl (by kernel_rfl) (by kernel_rfl) (by kernel_rfl) (fun c a w h => back23 rfl 99 (by decide) (by decide) c a _ w h) (Or.inl ⟨by rfl, ?_⟩) (by assumption) ?_
      rotate_left
      · (intro w hSw; (try dsimp only at hSw); have q1 := hSw.2; go_simp; try with_reducible rfl)
      try simp only [Act.put, List.setIfInBounds_toArray, List.set_cons_zero, List.set_cons_succ]
      refine wpAnyH_take (i := 4) (oi := ({ dst := some 100, op := .binOp .eql 3 (.tmp 97) (.tmp 99) 3, type := 4, pos := "apply.go:50", after := #[{ on := 1, ground := .data }, { on := 3, ground := .data }], guard := none } : Oper)) (v := ?_) rfl (by kernel_rfl) (by kernel_rfl) (by kernel_rfl) (fun c a w h => back23 rfl 100 (by decide) (by decide) c a _ w h) (Or.inl ⟨by rfl, ?_⟩) (by assumption) ?_
      rotate_left
      · (intro w hSw; (try dsimp only at hSw); go_simp; try with_reducible rfl)
      try simp only [Act.put, List.setIfInBounds_toArray, List.set_cons_zero, List.set_cons_succ]
      refine wpAnyH_take (i := 5) (oi := ({ dst := some 101, op := .move (.tmp 100), type := 4, pos := "apply.go:50", after := #[{ on := 4, ground := .data }], guard := none } : Oper)) (v := ?_) rfl (by kernel_rfl) (by kernel_rfl) (by kernel_rfl) (fun c a w h => back23 rfl 101 (by decide) (by decide) c a _ w h) (Or.inl ⟨by rfl, ?_⟩) (by assumption) ?_
      rotate_left
      · (intro w hSw; (try dsimp only at hSw); go_simp; try with_reducible rfl)
      try simp only [Act.put, List.setIfInBounds_toArray, List.set_cons_zero, List.set_cons_succ]
      refine wpAnyH_take (i := 6) (oi := ({ dst := some 102, op := .fieldAddr 140 (.tmp 4) 0, type := 0, pos := "apply.go:50", after := #[{ on := 5, ground := .guard }], guard := some (5, true) } : Oper)) (v := ?_) rfl (by kernel_rfl) (by kernel_rfl) (by kernel_rfl) (fun c a w h => back23 rfl 102 (by decide) (by decide) c a _ w h) (Or.inl ⟨by rfl, ?_⟩) (by assumption) ?_
      rotate_left
      · (intro w hSw; (try dsimp only at hSw); go_simp; try with_reducible rfl)
      try simp only [Act.put, List.setIfInBounds_toArray, List.set_cons_zero, List.set_cons_succ]
      refine wpAnyH_take (i := 7) (oi := ({ dst := some 103, op := .load 138 (.tmp 102), type := 138, pos := "apply.go:50", after := #[{ on := 6, ground := .data }, { on := 5, ground := .guard }], guard := some (5, true) } : Oper)) (v := ?_) rfl (by kernel_rfl) (by kernel_rfl) (by kernel_rfl) (fun c a w h => back23 rfl 103 (by decide) (by decide) c a _ w h) (Or.inl ⟨by rfl, ?_⟩) (by assumption) ?_
      rotate_left
      · (intro w hSw; (try dsimp only at hSw); have q1 := hSw.1; go_simp; try with_reducible rfl)
      try simp only [Act.put, List.setIfInBounds_toArray, List.set_cons_zero, List.set_cons_succ]
      refine wpAnyH_ready (rs := [8]) (by kernel_rfl) (by simp) ?_
      refine (AllReadyH.cons (o := ({ dst := some 104, op := .call { callee := .value (.func 90), args := #[.tmp 103], argTypes := #[138] }, type := 3, pos := "apply.go:50", after := #[{ on := 7, ground := .data }, { on := 5, ground := .chain }, { on := 5, ground := .guard }], guard := some (5, true) } : Oper)) rfl (fun K hK => ?_) AllReadyH.nil)
      go_simp
      (refine (RL.out _ hS.rd).mono ?_; rintro e w' ⟨rfl, hRn, kn⟩; have hS := hS.keep0 kn; have hs := hs.keep kn (by simp); have hL := hL.keep kn (by simp))
      go_wp2_with fail
      refine hK.out _ _ ?_ (fun hHeld1 => ?_)
      · (try dsimp only); exact ⟨hS.bc.cell (i := 0) rfl, by rw [← HX4.out]; exact dl_total hS.ba⟩
      clear hK K
      try simp only [Act.put, List.setIfInBounds_toArray, List.set_cons_zero, List.set_cons_succ]
      refine wpAnyH_take (i := 9) (oi := ({ dst := some 105, op := .binOp .eql 3 (.tmp 104) (.const (.int .i64 0)) 3, type := 4, pos := "apply.go:50", after := #[{ on := 8, ground := .data }, { on := 5, ground := .guard }], guard := some (5, true) } : Oper)) (v := ?_) rfl (by kernel_rfl) (by kernel_rfl) (by kernel_rfl) (fun c a w h => back23 rfl 105 (by decide) (by decide) c a _ w h) (Or.inl ⟨by rfl, ?_⟩) (by assumption) ?_
      rotate_left
      · (intro w hSw; (try dsimp only at hSw); go_simp; try with_reducible rfl)
      try simp only [Act.put, List.setIfInBounds_toArray, List.set_cons_zero, List.set_cons_succ]
      refine wpAnyH_take (i := 10) (oi := ({ dst := some 106, op := .pick (.tmp 101) (.tmp 105) (.const (.bool false)), type := 4, pos := "apply.go:50", after := #[{ on := 5, ground := .data }, { on := 9, ground := .data }], guard := none } : Oper)) (v := ?_) rfl (by kernel_rfl) (by kernel_rfl) (by kernel_rfl) (fun c a w h => back23 rfl 106 (by decide) (by decide) c a _ w h) (Or.inl ⟨by rfl, ?_⟩) (by assumption) ?_
      rotate_left
      · (intro w hSw; (try dsimp only at hSw); go_simp; try with_reducible rfl)
      try simp only [Act.put, List.setIfInBounds_toArray, List.set_cons_zero, List.set_cons_succ]
      refine wpAnyH_ready (rs := [11]) (by kernel_rfl) (by simp) ?_
      refine (AllReadyH.cons (o := ({ dst := some 107, op := .call { callee := .value (.func 85), args := #[.tmp 96, .tmp 106], argTypes := #[140, 4] }, type := 0, pos := "apply.go:50", after := #[{ on := 0, ground := .data }, { on := 10, ground := .data }, { on := 8, ground := .chain }], guard := none } : Oper)) rfl (fun K hK => ?_) AllReadyH.nil)
      go_simp
      (refine (ask_any P S d s _ _ hS.rd).mono ?_; rintro e w' ⟨he, kn⟩; have hS := hS.keep0 kn; have hs := hs.keep kn (by simp); have hL := hL.keep kn (by simp); split at he; rotate_left; (· rename_i hq; subst he; go_wp2_with fail; exact door rfl rfl rfl hS.ba hS.bb hF.ab Try.underlying89 rfl (hi89 _ _ _ _) (give_noD (HNO.out (fun h => hq ⟨by have h := h.1; simp only [Bool.and_eq_true, decide_eq_true_eq] at h; simp; omega, h.2⟩)) hS.k hF.b)); rename_i hq; subst he)
      go_wp2_with fail
      refine hK.out _ _ ?_ (fun hHeld2 => ?_)
      · (try dsimp only); exact ⟨hS.bc.cell (i := 0) rfl, by rw [← HX4.out]; exact dl_total hS.ba⟩
      clear hK K
      try simp only [Act.put, List.setIfInBounds_toArray, List.set_cons_zero, List.set_cons_succ]
      refine wpAnyH_done (by kernel_rfl) ?_ _
      skip
      obtain ⟨hq1, hq2⟩ := hq
      have q5 : lf = 0 := by simp at hq1; omega
      have HSB6 : Hid (dlO D = some ⟨X.width, X.size, X.length, X.base, X.target, X.total, l, X.lb, X.lt⟩) := Lib.hid (by rw [HSO.out, HSB5.out, if_pos ⟨by rw [decide_eq_true HT6.out, decide_eq_true q5]; rfl, hq2⟩])
      clear HSB5 hq1 hq2 HNO RL kn hRn hHeld0 hHeld1 hHeld2
      have HG1 := Lib.hid (X.one ao i co)
      have HGI := Lib.hid (hi89 X ao i co)
      obtain ⟨gc, hgc⟩ : ∃ gc, X.cells ao i co = gc := ⟨_, rfl⟩
      rw [hgc] at hS HG1 HGI
      have HGC := Lib.hid hgc
      clear hgc
      have rA := rangeAt_of_blk hS.ba
      go_upto_region 20 with fail
      go_wp2_with (first
        | (refine wpList_load_mid rfl 89 (.tmp 2) rfl A 0 rfl gc _ rA Try.underlying89 rfl HGI.out ?_)
        | (refine wpList_storeAll rfl 89 (.tmp 2) (.tmp 108) rfl A 89 gc gc rfl rfl hS.ba rfl HG1.out HGI.out ?_; intro w5 B5 k5; have hS5 := hS.put hF k5 B5; have cB := hS5.bb.cell (i := 0) rfl; have fB := hS5.bb.free (i := 0))
        | fail)
      have hA6 := hS5.ba.setOther (a := ⟨B, 0, none⟩) hF.ab (.bool true)
      have hB6 := hS5.bb.set 0 (.bool true)
      have kA := Keep.set_one w5 ⟨B, 0, none⟩ (.bool true)
      have hs6 := (hs.keep k5 (fun b hb hb' => by simp only [List.mem_singleton] at hb'; exact (HO.out b hb).1 hb')).keep kA (fun b hb hb' => by simp only [List.mem_singleton] at hb'; exact (HO.out b hb).2.1 hb')
      have hL6 := (hL.keep k5 (fun v hv b hb hb' => by simp only [List.mem_singleton] at hb'; exact (HV.out v hv b hb).1 hb')).keep kA (fun v hv b hb hb' => by simp only [List.mem_singleton] at hb'; exact (HV.out v hv b hb).2.1 hb')
      have kk : Keep [] w (w5.setCell ⟨B, 0, none⟩ (.bool true)) := hS5.k.trans kA (fun b hb => by simp only [List.mem_singleton] at hb; subst hb; exact Or.inr hF.b)
      refine door_ok rfl rfl rfl hA6 hB6 Try.underlying89 rfl HGI.out ⟨kk, ?_⟩
      rw [HSB6.out, ← HGC.out]
      exact ⟨ao, i, co, vs, rfl, HLL.out.1, hs6, hL6, fun b hb => Or.inr (HO.out b hb).2.2.2.2, fun v hv b hb => Or.inr (HV.out v hv b hb).2.2.2.2.1⟩
end Go.Proofs.Ytpocegdlobnhaaa
end

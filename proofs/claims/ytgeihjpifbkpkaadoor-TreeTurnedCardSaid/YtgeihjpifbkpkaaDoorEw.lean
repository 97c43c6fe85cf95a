/- entry of the program: what a reader takes. -/
import Derived.Test.YtgeihjpifbkpkaaDoorEy
import Derived.WalkLawsBesides
set_option linter.unusedVariables false
set_option linter.unusedSimpArgs false
namespace Go.Proofs.YtgeihjpifbkpkaaDoor
open Go.RowKit
/-- One entry, as a reader takes it. -/
def takE (d : List UInt8) (s : RS) : Ent × RS :=
  (entP ⟨(rText d (rFixed d s 1).2 32).1.toArray⟩ (rFixed d s 1).1 (rRaw d (rText d (rFixed d s 1).2 32).2 32).1, (rRaw d (rText d (rFixed d s 1).2 32).2 32).2)
def takOk (d : List UInt8) (s : RS) : Bool := okE (takE d s).1 && decide ((takE d s).2.code = 0)
def EnA (W : World) (P : Nat) (S : List Nat) (d : List UInt8) (s : RS) (x : Ent) (v : Value) (wc : World) : Prop := ∃ p, v = .pointer (some ⟨p, 0, none⟩) ∧ W.heap.size ≤ p ∧ p ∉ S ∧ Blk wc p x.cells.toArray 37 ∧ RdAt wc P S d s ∧ Keep [P] W wc
def EnQ (w : World) (P : Nat) (S : List Nat) (d : List UInt8) (x : Ent) (s : RS) (ok : Bool) (e : Ending) (w' : World) : Prop := e = (if ok then .returned (.agg x.cells.toArray) else .panicked [gone]) ∧ RdAt w' P S d s ∧ Keep [P] w w'
theorem EnQ.no {w w' : World} {P : Nat} {S : List Nat} {d : List UInt8} {x : Ent} {s : RS} {ok : Bool} (h : ok = false) (r : RdAt w' P S d s) (k : Keep [P] w w') : EnQ w P S d x s ok (.panicked [gone]) w' := ⟨by rw [h]; rfl, r, k⟩
theorem EnQ.yes {w w' : World} {P : Nat} {S : List Nat} {d : List UInt8} {x : Ent} {s : RS} {ok : Bool} (h : ok = true) (r : RdAt w' P S d s) (k : Keep [P] w w') : EnQ w P S d x s ok (.returned (.agg x.cells.toArray)) w' := ⟨by rw [h]; rfl, r, k⟩
set_option maxHeartbeats 4000000 in
set_option maxRecDepth 100000 in
theorem entry_any (P : Nat) (S : List Nat) (d : List UInt8) (s : RS) (w w0 : World) (h : RdAt w P S d s) (hT : Tabs w0) (k0 : Keep [] w0 w) (hP0 : w0.heap.size ≤ P) :
    Calls Tryd.prog 41 #[rdr P] w (EnQ w P S d (takE d s).1 (takE d s).2 (takOk d s)) := by
  obtain ⟨kd, s1, e1⟩ : ∃ kd s1, rFixed d s 1 = (kd, s1) := ⟨_, _, rfl⟩
  obtain ⟨ns, s2, e2⟩ : ∃ ns s2, rText d s1 32 = (ns, s2) := ⟨_, _, rfl⟩
  obtain ⟨xs, s3, e3⟩ : ∃ xs s3, rRaw d s2 32 = (xs, s3) := ⟨_, _, rfl⟩
  obtain ⟨nm, hnm⟩ : ∃ nm : ByteArray, (⟨ns.toArray⟩ : ByteArray) = nm := ⟨_, rfl⟩
  have hx : takE d s = (entP nm kd xs, s3) := by unfold takE; simp only [e1, e2, e3, hnm]
  have hok : takOk d s = (okE (entP nm kd xs) && decide (s3.code = 0)) := by unfold takOk; rw [hx]
  rw [hok, hx]
  have RF := Lib.hid (fun W h => by have := rfixed_any P S d s 1 W h; rw [e1] at this; exact this : ∀ W, RdAt W P S d s → Calls Tryd.prog 39 #[.pointer (some ⟨P, 0, none⟩), .int .i64 1] W fun e w' => e = .returned (.int .i64 (kd : Nat)) ∧ RdAt w' P S d s1 ∧ Keep [P] W w')
  have RT := Lib.hid (text32 P S d s1 s2 ns e2)
  have RW := Lib.hid (raw32 P S d s2 s3 xs e3)
  have HNM := Lib.hid hnm
  have hsz : nm.size ≤ 32 := by
    have h32 := rText_short e2
    rw [← hnm]; simpa [ByteArray.size] using h32
  clear e1 e2 e3 hx hok hnm
  have B0 : Blk (w.alloc (.cells #[.pointer (some ⟨P, 0, none⟩)] 69)) w.heap.size #[.pointer (some ⟨P, 0, none⟩)] 69 := Blk.new _ _ _
  have B1 := B0.alloc (.cells (ent0 ⟨#[]⟩ 0).cells.toArray 37)
  have R1 : Blk ((w.alloc (.cells #[.pointer (some ⟨P, 0, none⟩)] 69)).alloc (.cells (ent0 ⟨#[]⟩ 0).cells.toArray 37)) (w.heap.size + 1) (ent0 ⟨#[]⟩ 0).cells.toArray 37 := Blk.new' _ _ _ (by simp)
  have kW : Keep [] w ((w.alloc (.cells #[.pointer (some ⟨P, 0, none⟩)] 69)).alloc (.cells (ent0 ⟨#[]⟩ 0).cells.toArray 37)) := ((Keep.refl [] w).alloc _).alloc _
  have hPw : P < w.heap.size := h.lt P h.self
  have hSw0 := h.lt
  obtain ⟨W, hW⟩ : ∃ W, (w.alloc (.cells #[.pointer (some ⟨P, 0, none⟩)] 69)).alloc (.cells (ent0 ⟨#[]⟩ 0).cells.toArray 37) = W := ⟨_, rfl⟩
  rw [hW] at B1 R1 kW
  have HW := Lib.hid hW
  clear hW B0
  obtain ⟨B, hB⟩ : ∃ B, w.heap.size = B := ⟨_, rfl⟩
  obtain ⟨R, hR⟩ : ∃ R, B + 1 = R := ⟨_, rfl⟩
  rw [hB] at B1 R1 hPw hSw0
  rw [hR] at R1
  have HB := Lib.hid hB
  have HR := Lib.hid hR
  have hBR : B ≠ R := by omega
  have hPB : B ≠ P := by omega
  have hPR : R ≠ P := by omega
  have hBS : B ∉ S := fun h => by have := hSw0 B h; omega
  have hRS : R ∉ S := fun h => by have := hSw0 R h; omega
  have hwB : w.heap.size ≤ B := by omega
  have hwR : w.heap.size ≤ R := by omega
  have hRW := h.keep kW (by simp)
  have cB := B1.cell (i := 0) rfl
  have hBlt := B1.lt
  have hRlt := R1.lt
  clear hB hR hSw0
  go_enter Tryd.func41, Tryd.ntmps41
  go_upto_region 1 with fail
  change Code.wp _ _ _ _ (World.alloc _ (.cells (ent0 ⟨#[]⟩ 0).cells.toArray 37))
  rw [HW.out, HB.out, HR.out]
  go_cut [3] (fun v3 wc => EnA W P S d s2 (ent0 nm kd) v3 wc)
  case first =>
    have hRc := hRW.keep ((Keep.refl [] W).drew) (by simp)
    have kc : Keep [P] W W.drew := (Keep.refl [P] W).drew
    refine wp_region_noPanic ?_
    refine wp_region_held_drew (S := fun w' => w'.cell? ⟨B, 0, none⟩ = some (.pointer (some ⟨P, 0, none⟩))) (by kernel_rfl) ?_ (fun hHeld0 => ?_)
    · (try dsimp only); exact kc.cell cB (by simp only [List.mem_singleton]; exact hPB)
    refine wpAnyH_take (i := 0) (oi := ({ dst := some 4, op := Go.Op.fieldAddr 69 (Go.Operand.tmp 1) 0, type := 0, pos := "tree.go:64", after := #[], guard := none } : Oper)) (v := ?_) rfl (by kernel_rfl) (by kernel_rfl) (by kernel_rfl) (fun _ _ _ h => h) (Or.inl ⟨by rfl, ?_⟩) (by assumption) ?_
    rotate_left
    · (intro w hSw; (try dsimp only at hSw); go_simp; try with_reducible rfl)
    try simp only [Act.put, List.setIfInBounds_toArray, List.set_cons_zero, List.set_cons_succ]
    refine wpAnyH_take (i := 1) (oi := ({ dst := some 5, op := Go.Op.load 67 (Go.Operand.tmp 4), type := 67, pos := "tree.go:64", after := #[{ on := 0, ground := Go.Ground.data }], guard := none } : Oper)) (v := ?_) rfl (by kernel_rfl) (by kernel_rfl) (by kernel_rfl) (fun _ _ _ h => h) (Or.inl ⟨by rfl, ?_⟩) (by assumption) ?_
    rotate_left
    · (intro w hSw; (try dsimp only at hSw); go_simp; try with_reducible rfl)
    try simp only [Act.put, List.setIfInBounds_toArray, List.set_cons_zero, List.set_cons_succ]
    refine wpAnyH_take (i := 3) (oi := ({ dst := some 7, op := Go.Op.fieldAddr 69 (Go.Operand.tmp 1) 0, type := 0, pos := "tree.go:64", after := #[], guard := none } : Oper)) (v := ?_) rfl (by kernel_rfl) (by kernel_rfl) (by kernel_rfl) (fun _ _ _ h => h) (Or.inl ⟨by rfl, ?_⟩) (by assumption) ?_
    rotate_left
    · (intro w hSw; (try dsimp only at hSw); go_simp; try with_reducible rfl)
    try simp only [Act.put, List.setIfInBounds_toArray, List.set_cons_zero, List.set_cons_succ]
    refine wpAnyH_take (i := 4) (oi := ({ dst := some 8, op := Go.Op.load 67 (Go.Operand.tmp 7), type := 67, pos := "tree.go:64", after := #[{ on := 3, ground := Go.Ground.data }], guard := none } : Oper)) (v := ?_) rfl (by kernel_rfl) (by kernel_rfl) (by kernel_rfl) (fun _ _ _ h => h) (Or.inl ⟨by rfl, ?_⟩) (by assumption) ?_
    rotate_left
    · (intro w hSw; (try dsimp only at hSw); go_simp; try with_reducible rfl)
    try simp only [Act.put, List.setIfInBounds_toArray, List.set_cons_zero, List.set_cons_succ]
    refine wpAnyH_ready (rs := [2, 8]) (by kernel_rfl) (by simp) ?_
    refine (AllReadyH.cons (o := ({ dst := some 6, op := Go.Op.call { callee := Go.Callee.value (Go.Operand.func 39), args := #[Go.Operand.tmp 5, Go.Operand.const (Go.Value.int Go.IntKind.i64 1)], argTypes := #[67, 3] }, type := 3, pos := "tree.go:64", after := #[{ on := 1, ground := Go.Ground.data }], guard := none } : Oper)) rfl (fun K hK => ?_) (AllReadyH.cons (o := ({ dst := some 3, op := Go.Op.alloc 37, type := 0, pos := "tree.go:64", after := #[], guard := none } : Oper)) rfl (fun K hK => ?_) AllReadyH.nil))
    · go_simp
      (refine (RF.out _ hRc).mono ?_; rintro e w' ⟨rfl, hRn, kn⟩; have hRc := hRn; have kc := kc.trans kn (by simp); (first | (have Bc := Bc.keep kn (by simp only [List.mem_singleton]; exact hpP)) | skip))
      go_wp2_with fail
      refine hK.out _ _ ?_ (fun hHeld1 => ?_)
      · (try dsimp only); exact kc.cell cB (by simp only [List.mem_singleton]; exact hPB)
      clear hK K
      try simp only [Act.put, List.setIfInBounds_toArray, List.set_cons_zero, List.set_cons_succ]
      refine wpAnyH_ready (rs := [5, 8]) (by kernel_rfl) (by simp) ?_
      refine (AllReadyH.cons (o := ({ dst := some 9, op := Go.Op.call { callee := Go.Callee.value (Go.Operand.func 52), args := #[Go.Operand.tmp 8, Go.Operand.const (Go.Value.int Go.IntKind.i64 32)], argTypes := #[67, 3] }, type := 26, pos := "tree.go:64", after := #[{ on := 4, ground := Go.Ground.data }, { on := 2, ground := Go.Ground.chain }], guard := none } : Oper)) rfl (fun K hK => ?_) (AllReadyH.cons (o := ({ dst := some 3, op := Go.Op.alloc 37, type := 0, pos := "tree.go:64", after := #[], guard := none } : Oper)) rfl (fun K hK => ?_) AllReadyH.nil))
      · go_simp
        (refine (RT.out _ hRc).mono ?_; rintro e w' ⟨a5, q5, c5, rfl, hq5, sl5, hRn, kn⟩; have hRc := hRn; have kc := kc.trans kn (by simp); (first | (have Bc := Bc.keep kn (by simp only [List.mem_singleton]; exact hpP)) | skip))
        go_wp2_with fail
        refine hK.out _ _ ?_ (fun hHeld2 => ?_)
        · (try dsimp only); exact kc.cell cB (by simp only [List.mem_singleton]; exact hPB)
        clear hK K
        try simp only [Act.put, List.setIfInBounds_toArray, List.set_cons_zero, List.set_cons_succ]
        refine wpAnyH_ready (rs := [6, 8]) (by kernel_rfl) (by simp) ?_
        refine (AllReadyH.cons (o := ({ dst := some 10, op := Go.Op.convert 26 9 (Go.Operand.tmp 9), type := 9, pos := "tree.go:64", after := #[{ on := 5, ground := Go.Ground.data }], guard := none } : Oper)) rfl (fun K hK => ?_) (AllReadyH.cons (o := ({ dst := some 3, op := Go.Op.alloc 37, type := 0, pos := "tree.go:64", after := #[], guard := none } : Oper)) rfl (fun K hK => ?_) AllReadyH.nil))
        · (refine step_strB rfl (.tmp 9) rfl a5 q5 c5 ns rfl hq5 sl5 ?_; rw [HNM.out])
          refine hK.out _ _ ?_ (fun hHeld3 => ?_)
          · (try dsimp only); exact kc.cell cB (by simp only [List.mem_singleton]; exact hPB)
          clear hK K
          try simp only [Act.put, List.setIfInBounds_toArray, List.set_cons_zero, List.set_cons_succ]
          refine wpAnyH_ready (rs := [7, 8]) (by kernel_rfl) (by simp) ?_
          refine (AllReadyH.cons (o := ({ dst := some 11, op := Go.Op.build 37 #[(1, Go.Operand.tmp 6), (0, Go.Operand.tmp 10)], type := 37, pos := "tree.go:64", after := #[{ on := 2, ground := Go.Ground.data }, { on := 6, ground := Go.Ground.data }], guard := none } : Oper)) rfl (fun K hK => ?_) (AllReadyH.cons (o := ({ dst := some 3, op := Go.Op.alloc 37, type := 0, pos := "tree.go:64", after := #[], guard := none } : Oper)) rfl (fun K hK => ?_) AllReadyH.nil))
          · (refine step_buildE rfl (.tmp 6) (.tmp 10) rfl kd nm rfl rfl ?_)
            refine hK.out _ _ ?_ (fun hHeld4 => ?_)
            · (try dsimp only); exact kc.cell cB (by simp only [List.mem_singleton]; exact hPB)
            clear hK K
            try simp only [Act.put, List.setIfInBounds_toArray, List.set_cons_zero, List.set_cons_succ]
            refine wpAnyH_ready (rs := [8]) (by kernel_rfl) (by simp) ?_
            refine (AllReadyH.cons (o := ({ dst := some 3, op := Go.Op.alloc 37, type := 0, pos := "tree.go:64", after := #[], guard := none } : Oper)) rfl (fun K hK => ?_) AllReadyH.nil)
            (refine step_allocE rfl rfl ?_; intro p wN hp Bc kn; have hpS : p ∉ S := (fun h => by have := hRc.lt p h; omega); have hpP : p ≠ P := (fun h => hpS (h ▸ hRc.self)); have hpW : W.heap.size ≤ p := Nat.le_trans kc.size hp; have hRc := hRc.keep kn (by simp); have kc := kc.trans kn (by simp); (first | (have sl5 := sl5.keep kn (by simp)) | skip))
            refine hK.out _ _ ?_ (fun hHeld5 => ?_)
            · (try dsimp only); exact kc.cell cB (by simp only [List.mem_singleton]; exact hPB)
            clear hK K
            try simp only [Act.put, List.setIfInBounds_toArray, List.set_cons_zero, List.set_cons_succ]
            refine wpAnyH_ready (rs := [9]) (by kernel_rfl) (by simp) ?_
            refine (AllReadyH.cons (o := ({ dst := none, op := Go.Op.store 37 (Go.Operand.tmp 3) (Go.Operand.tmp 11), type := 0, pos := "tree.go:64", after := #[{ on := 8, ground := Go.Ground.data }, { on := 7, ground := Go.Ground.data }, { on := 5, ground := Go.Ground.chain }, { on := 0, ground := Go.Ground.phase }, { on := 1, ground := Go.Ground.phase }, { on := 2, ground := Go.Ground.phase }, { on := 3, ground := Go.Ground.phase }, { on := 4, ground := Go.Ground.phase }, { on := 5, ground := Go.Ground.phase }, { on := 6, ground := Go.Ground.phase }, { on := 7, ground := Go.Ground.phase }, { on := 8, ground := Go.Ground.phase }], guard := none } : Oper)) rfl (fun K hK => ?_) AllReadyH.nil)
            (refine step_storeE rfl (.tmp 3) (.tmp 11) rfl p (ent0 nm kd) _ rfl rfl Bc rfl ?_; intro wN Bn kn; have hRc := hRc.keep kn (fun b hb hb' => by simp only [List.mem_singleton] at hb'; subst hb'; exact hpS hb); have kc := kc.trans kn (fun b hb => by simp only [List.mem_singleton] at hb; subst hb; exact Or.inr hpW))
            refine hK.out _ _ ?_ (fun hHeld6 => ?_)
            · (try dsimp only); exact kc.cell cB (by simp only [List.mem_singleton]; exact hPB)
            clear hK K
            try simp only [Act.put, List.setIfInBounds_toArray, List.set_cons_zero, List.set_cons_succ]
            refine wpAnyH_done (by kernel_rfl) ?_ _
            refine NoPanic.normal ?_
            (go_wp2_with fail; go_meet; case rel => exact ⟨p, rfl, hpW, hpS, Bn, hRc, kc⟩)
          · (refine step_allocE rfl rfl ?_; intro p wN hp Bc kn; have hpS : p ∉ S := (fun h => by have := hRc.lt p h; omega); have hpP : p ≠ P := (fun h => hpS (h ▸ hRc.self)); have hpW : W.heap.size ≤ p := Nat.le_trans kc.size hp; have hRc := hRc.keep kn (by simp); have kc := kc.trans kn (by simp); (first | (have sl5 := sl5.keep kn (by simp)) | skip))
            refine hK.out _ _ ?_ (fun hHeld6 => ?_)
            · (try dsimp only); exact kc.cell cB (by simp only [List.mem_singleton]; exact hPB)
            clear hK K
            try simp only [Act.put, List.setIfInBounds_toArray, List.set_cons_zero, List.set_cons_succ]
            refine wpAnyH_ready (rs := [7]) (by kernel_rfl) (by simp) ?_
            refine (AllReadyH.cons (o := ({ dst := some 11, op := Go.Op.build 37 #[(1, Go.Operand.tmp 6), (0, Go.Operand.tmp 10)], type := 37, pos := "tree.go:64", after := #[{ on := 2, ground := Go.Ground.data }, { on := 6, ground := Go.Ground.data }], guard := none } : Oper)) rfl (fun K hK => ?_) AllReadyH.nil)
            (refine step_buildE rfl (.tmp 6) (.tmp 10) rfl kd nm rfl rfl ?_)
            refine hK.out _ _ ?_ (fun hHeld7 => ?_)
            · (try dsimp only); exact kc.cell cB (by simp only [List.mem_singleton]; exact hPB)
            clear hK K
            try simp only [Act.put, List.setIfInBounds_toArray, List.set_cons_zero, List.set_cons_succ]
            refine wpAnyH_ready (rs := [9]) (by kernel_rfl) (by simp) ?_
            refine (AllReadyH.cons (o := ({ dst := none, op := Go.Op.store 37 (Go.Operand.tmp 3) (Go.Operand.tmp 11), type := 0, pos := "tree.go:64", after := #[{ on := 8, ground := Go.Ground.data }, { on := 7, ground := Go.Ground.data }, { on := 5, ground := Go.Ground.chain }, { on := 0, ground := Go.Ground.phase }, { on := 1, ground := Go.Ground.phase }, { on := 2, ground := Go.Ground.phase }, { on := 3, ground := Go.Ground.phase }, { on := 4, ground := Go.Ground.phase }, { on := 5, ground := Go.Ground.phase }, { on := 6, ground := Go.Ground.phase }, { on := 7, ground := Go.Ground.phase }, { on := 8, ground := Go.Ground.phase }], guard := none } : Oper)) rfl (fun K hK => ?_) AllReadyH.nil)
            (refine step_storeE rfl (.tmp 3) (.tmp 11) rfl p (ent0 nm kd) _ rfl rfl Bc rfl ?_; intro wN Bn kn; have hRc := hRc.keep kn (fun b hb hb' => by simp only [List.mem_singleton] at hb'; subst hb'; exact hpS hb); have kc := kc.trans kn (fun b hb => by simp only [List.mem_singleton] at hb; subst hb; exact Or.inr hpW))
            refine hK.out _ _ ?_ (fun hHeld8 => ?_)
            · (try dsimp only); exact kc.cell cB (by simp only [List.mem_singleton]; exact hPB)
            clear hK K
            try simp only [Act.put, List.setIfInBounds_toArray, List.set_cons_zero, List.set_cons_succ]
            refine wpAnyH_done (by kernel_rfl) ?_ _
            refine NoPanic.normal ?_
            (go_wp2_with fail; go_meet; case rel => exact ⟨p, rfl, hpW, hpS, Bn, hRc, kc⟩)
        · (refine step_allocE rfl rfl ?_; intro p wN hp Bc kn; have hpS : p ∉ S := (fun h => by have := hRc.lt p h; omega); have hpP : p ≠ P := (fun h => hpS (h ▸ hRc.self)); have hpW : W.heap.size ≤ p := Nat.le_trans kc.size hp; have hRc := hRc.keep kn (by simp); have kc := kc.trans kn (by simp); (first | (have sl5 := sl5.keep kn (by simp)) | skip))
          refine hK.out _ _ ?_ (fun hHeld8 => ?_)
          · (try dsimp only); exact kc.cell cB (by simp only [List.mem_singleton]; exact hPB)
          clear hK K
          try simp only [Act.put, List.setIfInBounds_toArray, List.set_cons_zero, List.set_cons_succ]
          refine wpAnyH_ready (rs := [6]) (by kernel_rfl) (by simp) ?_
          refine (AllReadyH.cons (o := ({ dst := some 10, op := Go.Op.convert 26 9 (Go.Operand.tmp 9), type := 9, pos := "tree.go:64", after := #[{ on := 5, ground := Go.Ground.data }], guard := none } : Oper)) rfl (fun K hK => ?_) AllReadyH.nil)
          (refine step_strB rfl (.tmp 9) rfl a5 q5 c5 ns rfl hq5 sl5 ?_; rw [HNM.out])
          refine hK.out _ _ ?_ (fun hHeld9 => ?_)
          · (try dsimp only); exact kc.cell cB (by simp only [List.mem_singleton]; exact hPB)
          clear hK K
          try simp only [Act.put, List.setIfInBounds_toArray, List.set_cons_zero, List.set_cons_succ]
          refine wpAnyH_ready (rs := [7]) (by kernel_rfl) (by simp) ?_
          refine (AllReadyH.cons (o := ({ dst := some 11, op := Go.Op.build 37 #[(1, Go.Operand.tmp 6), (0, Go.Operand.tmp 10)], type := 37, pos := "tree.go:64", after := #[{ on := 2, ground := Go.Ground.data }, { on := 6, ground := Go.Ground.data }], guard := none } : Oper)) rfl (fun K hK => ?_) AllReadyH.nil)
          (refine step_buildE rfl (.tmp 6) (.tmp 10) rfl kd nm rfl rfl ?_)
          refine hK.out _ _ ?_ (fun hHeld10 => ?_)
          · (try dsimp only); exact kc.cell cB (by simp only [List.mem_singleton]; exact hPB)
          clear hK K
          try simp only [Act.put, List.setIfInBounds_toArray, List.set_cons_zero, List.set_cons_succ]
          refine wpAnyH_ready (rs := [9]) (by kernel_rfl) (by simp) ?_
          refine (AllReadyH.cons (o := ({ dst := none, op := Go.Op.store 37 (Go.Operand.tmp 3) (Go.Operand.tmp 11), type := 0, pos := "tree.go:64", after := #[{ on := 8, ground := Go.Ground.data }, { on := 7, ground := Go.Ground.data }, { on := 5, ground := Go.Ground.chain }, { on := 0, ground := Go.Ground.phase }, { on := 1, ground := Go.Ground.phase }, { on := 2, ground := Go.Ground.phase }, { on := 3, ground := Go.Ground.phase }, { on := 4, ground := Go.Ground.phase }, { on := 5, ground := Go.Ground.phase }, { on := 6, ground := Go.Ground.phase }, { on := 7, ground := Go.Ground.phase }, { on := 8, ground := Go.Ground.phase }], guard := none } : Oper)) rfl (fun K hK => ?_) AllReadyH.nil)
          (refine step_storeE rfl (.tmp 3) (.tmp 11) rfl p (ent0 nm kd) _ rfl rfl Bc rfl ?_; intro wN Bn kn; have hRc := hRc.keep kn (fun b hb hb' => by simp only [List.mem_singleton] at hb'; subst hb'; exact hpS hb); have kc := kc.trans kn (fun b hb => by simp only [List.mem_singleton] at hb; subst hb; exact Or.inr hpW))
          refine hK.out _ _ ?_ (fun hHeld11 => ?_)
          · (try dsimp only); exact kc.cell cB (by simp only [List.mem_singleton]; exact hPB)
          clear hK K
          try simp only [Act.put, List.setIfInBounds_toArray, List.set_cons_zero, List.set_cons_succ]
          refine wpAnyH_done (by kernel_rfl) ?_ _
          refine NoPanic.normal ?_
          (go_wp2_with fail; go_meet; case rel => exact ⟨p, rfl, hpW, hpS, Bn, hRc, kc⟩)
      · (refine step_allocE rfl rfl ?_; intro p wN hp Bc kn; have hpS : p ∉ S := (fun h => by have := hRc.lt p h; omega); have hpP : p ≠ P := (fun h => hpS (h ▸ hRc.self)); have hpW : W.heap.size ≤ p := Nat.le_trans kc.size hp; have hRc := hRc.keep kn (by simp); have kc := kc.trans kn (by simp); (first | (have sl5 := sl5.keep kn (by simp)) | skip))
        refine hK.out _ _ ?_ (fun hHeld11 => ?_)
        · (try dsimp only); exact kc.cell cB (by simp only [List.mem_singleton]; exact hPB)
        clear hK K
        try simp only [Act.put, List.setIfInBounds_toArray, List.set_cons_zero, List.set_cons_succ]
        refine wpAnyH_ready (rs := [5]) (by kernel_rfl) (by simp) ?_
        refine (AllReadyH.cons (o := ({ dst := some 9, op := Go.Op.call { callee := Go.Callee.value (Go.Operand.func 52), args := #[Go.Operand.tmp 8, Go.Operand.const (Go.Value.int Go.IntKind.i64 32)], argTypes := #[67, 3] }, type := 26, pos := "tree.go:64", after := #[{ on := 4, ground := Go.Ground.data }, { on := 2, ground := Go.Ground.chain }], guard := none } : Oper)) rfl (fun K hK => ?_) AllReadyH.nil)
        go_simp
        (refine (RT.out _ hRc).mono ?_; rintro e w' ⟨a5, q5, c5, rfl, hq5, sl5, hRn, kn⟩; have hRc := hRn; have kc := kc.trans kn (by simp); (first | (have Bc := Bc.keep kn (by simp only [List.mem_singleton]; exact hpP)) | skip))
        go_wp2_with fail
        refine hK.out _ _ ?_ (fun hHeld12 => ?_)
        · (try dsimp only); exact kc.cell cB (by simp only [List.mem_singleton]; exact hPB)
        clear hK K
        try simp only [Act.put, List.setIfInBounds_toArray, List.set_cons_zero, List.set_cons_succ]
        refine wpAnyH_ready (rs := [6]) (by kernel_rfl) (by simp) ?_
        refine (AllReadyH.cons (o := ({ dst := some 10, op := Go.Op.convert 26 9 (Go.Operand.tmp 9), type := 9, pos := "tree.go:64", after := #[{ on := 5, ground := Go.Ground.data }], guard := none } : Oper)) rfl (fun K hK => ?_) AllReadyH.nil)
        (refine step_strB rfl (.tmp 9) rfl a5 q5 c5 ns rfl hq5 sl5 ?_; rw [HNM.out])
        refine hK.out _ _ ?_ (fun hHeld13 => ?_)
        · (try dsimp only); exact kc.cell cB (by simp only [List.mem_singleton]; exact hPB)
        clear hK K
        try simp only [Act.put, List.setIfInBounds_toArray, List.set_cons_zero, List.set_cons_succ]
        refine wpAnyH_ready (rs := [7]) (by kernel_rfl) (by simp) ?_
        refine (AllReadyH.cons (o := ({ dst := some 11, op := Go.Op.build 37 #[(1, Go.Operand.tmp 6), (0, Go.Operand.tmp 10)], type := 37, pos := "tree.go:64", after := #[{ on := 2, ground := Go.Ground.data }, { on := 6, ground := Go.Ground.data }], guard := none } : Oper)) rfl (fun K hK => ?_) AllReadyH.nil)
        (refine step_buildE rfl (.tmp 6) (.tmp 10) rfl kd nm rfl rfl ?_)
        refine hK.out _ _ ?_ (fun hHeld14 => ?_)
        · (try dsimp only); exact kc.cell cB (by simp only [List.mem_singleton]; exact hPB)
        clear hK K
        try simp only [Act.put, List.setIfInBounds_toArray, List.set_cons_zero, List.set_cons_succ]
        refine wpAnyH_ready (rs := [9]) (by kernel_rfl) (by simp) ?_
        refine (AllReadyH.cons (o := ({ dst := none, op := Go.Op.store 37 (Go.Operand.tmp 3) (Go.Operand.tmp 11), type := 0, pos := "tree.go:64", after := #[{ on := 8, ground := Go.Ground.data }, { on := 7, ground := Go.Ground.data }, { on := 5, ground := Go.Ground.chain }, { on := 0, ground := Go.Ground.phase }, { on := 1, ground := Go.Ground.phase }, { on := 2, ground := Go.Ground.phase }, { on := 3, ground := Go.Ground.phase }, { on := 4, ground := Go.Ground.phase }, { on := 5, ground := Go.Ground.phase }, { on := 6, ground := Go.Ground.phase }, { on := 7, ground := Go.Ground.phase }, { on := 8, ground := Go.Ground.phase }], guard := none } : Oper)) rfl (fun K hK => ?_) AllReadyH.nil)
        (refine step_storeE rfl (.tmp 3) (.tmp 11) rfl p (ent0 nm kd) _ rfl rfl Bc rfl ?_; intro wN Bn kn; have hRc := hRc.keep kn (fun b hb hb' => by simp only [List.mem_singleton] at hb'; subst hb'; exact hpS hb); have kc := kc.trans kn (fun b hb => by simp only [List.mem_singleton] at hb; subst hb; exact Or.inr hpW))
        refine hK.out _ _ ?_ (fun hHeld15 => ?_)
        · (try dsimp only); exact kc.cell cB (by simp only [List.mem_singleton]; exact hPB)
        clear hK K
        try simp only [Act.put, List.setIfInBounds_toArray, List.set_cons_zero, List.set_cons_succ]
        refine wpAnyH_done (by kernel_rfl) ?_ _
        refine NoPanic.normal ?_
        (go_wp2_with fail; go_meet; case rel => exact ⟨p, rfl, hpW, hpS, Bn, hRc, kc⟩)
    · (refine step_allocE rfl rfl ?_; intro p wN hp Bc kn; have hpS : p ∉ S := (fun h => by have := hRc.lt p h; omega); have hpP : p ≠ P := (fun h => hpS (h ▸ hRc.self)); have hpW : W.heap.size ≤ p := Nat.le_trans kc.size hp; have hRc := hRc.keep kn (by simp); have kc := kc.trans kn (by simp); (first | (have sl5 := sl5.keep kn (by simp)) | skip))
      refine hK.out _ _ ?_ (fun hHeld15 => ?_)
      · (try dsimp only); exact kc.cell cB (by simp only [List.mem_singleton]; exact hPB)
      clear hK K
      try simp only [Act.put, List.setIfInBounds_toArray, List.set_cons_zero, List.set_cons_succ]
      refine wpAnyH_ready (rs := [2]) (by kernel_rfl) (by simp) ?_
      refine (AllReadyH.cons (o := ({ dst := some 6, op := Go.Op.call { callee := Go.Callee.value (Go.Operand.func 39), args := #[Go.Operand.tmp 5, Go.Operand.const (Go.Value.int Go.IntKind.i64 1)], argTypes := #[67, 3] }, type := 3, pos := "tree.go:64", after := #[{ on := 1, ground := Go.Ground.data }], guard := none } : Oper)) rfl (fun K hK => ?_) AllReadyH.nil)
      go_simp
      (refine (RF.out _ hRc).mono ?_; rintro e w' ⟨rfl, hRn, kn⟩; have hRc := hRn; have kc := kc.trans kn (by simp); (first | (have Bc := Bc.keep kn (by simp only [List.mem_singleton]; exact hpP)) | skip))
      go_wp2_with fail
      refine hK.out _ _ ?_ (fun hHeld16 => ?_)
      · (try dsimp only); exact kc.cell cB (by simp only [List.mem_singleton]; exact hPB)
      clear hK K
      try simp only [Act.put, List.setIfInBounds_toArray, List.set_cons_zero, List.set_cons_succ]
      refine wpAnyH_ready (rs := [5]) (by kernel_rfl) (by simp) ?_
      refine (AllReadyH.cons (o := ({ dst := some 9, op := Go.Op.call { callee := Go.Callee.value (Go.Operand.func 52), args := #[Go.Operand.tmp 8, Go.Operand.const (Go.Value.int Go.IntKind.i64 32)], argTypes := #[67, 3] }, type := 26, pos := "tree.go:64", after := #[{ on := 4, ground := Go.Ground.data }, { on := 2, ground := Go.Ground.chain }], guard := none } : Oper)) rfl (fun K hK => ?_) AllReadyH.nil)
      go_simp
      (refine (RT.out _ hRc).mono ?_; rintro e w' ⟨a5, q5, c5, rfl, hq5, sl5, hRn, kn⟩; have hRc := hRn; have kc := kc.trans kn (by simp); (first | (have Bc := Bc.keep kn (by simp only [List.mem_singleton]; exact hpP)) | skip))
      go_wp2_with fail
      refine hK.out _ _ ?_ (fun hHeld17 => ?_)
      · (try dsimp only); exact kc.cell cB (by simp only [List.mem_singleton]; exact hPB)
      clear hK K
      try simp only [Act.put, List.setIfInBounds_toArray, List.set_cons_zero, List.set_cons_succ]
      refine wpAnyH_ready (rs := [6]) (by kernel_rfl) (by simp) ?_
      refine (AllReadyH.cons (o := ({ dst := some 10, op := Go.Op.convert 26 9 (Go.Operand.tmp 9), type := 9, pos := "tree.go:64", after := #[{ on := 5, ground := Go.Ground.data }], guard := none } : Oper)) rfl (fun K hK => ?_) AllReadyH.nil)
      (refine step_strB rfl (.tmp 9) rfl a5 q5 c5 ns rfl hq5 sl5 ?_; rw [HNM.out])
      refine hK.out _ _ ?_ (fun hHeld18 => ?_)
      · (try dsimp only); exact kc.cell cB (by simp only [List.mem_singleton]; exact hPB)
      clear hK K
      try simp only [Act.put, List.setIfInBounds_toArray, List.set_cons_zero, List.set_cons_succ]
      refine wpAnyH_ready (rs := [7]) (by kernel_rfl) (by simp) ?_
      refine (AllReadyH.cons (o := ({ dst := some 11, op := Go.Op.build 37 #[(1, Go.Operand.tmp 6), (0, Go.Operand.tmp 10)], type := 37, pos := "tree.go:64", after := #[{ on := 2, ground := Go.Ground.data }, { on := 6, ground := Go.Ground.data }], guard := none } : Oper)) rfl (fun K hK => ?_) AllReadyH.nil)
      (refine step_buildE rfl (.tmp 6) (.tmp 10) rfl kd nm rfl rfl ?_)
      refine hK.out _ _ ?_ (fun hHeld19 => ?_)
      · (try dsimp only); exact kc.cell cB (by simp only [List.mem_singleton]; exact hPB)
      clear hK K
      try simp only [Act.put, List.setIfInBounds_toArray, List.set_cons_zero, List.set_cons_succ]
      refine wpAnyH_ready (rs := [9]) (by kernel_rfl) (by simp) ?_
      refine (AllReadyH.cons (o := ({ dst := none, op := Go.Op.store 37 (Go.Operand.tmp 3) (Go.Operand.tmp 11), type := 0, pos := "tree.go:64", after := #[{ on := 8, ground := Go.Ground.data }, { on := 7, ground := Go.Ground.data }, { on := 5, ground := Go.Ground.chain }, { on := 0, ground := Go.Ground.phase }, { on := 1, ground := Go.Ground.phase }, { on := 2, ground := Go.Ground.phase }, { on := 3, ground := Go.Ground.phase }, { on := 4, ground := Go.Ground.phase }, { on := 5, ground := Go.Ground.phase }, { on := 6, ground := Go.Ground.phase }, { on := 7, ground := Go.Ground.phase }, { on := 8, ground := Go.Ground.phase }], guard := none } : Oper)) rfl (fun K hK => ?_) AllReadyH.nil)
      (refine step_storeE rfl (.tmp 3) (.tmp 11) rfl p (ent0 nm kd) _ rfl rfl Bc rfl ?_; intro wN Bn kn; have hRc := hRc.keep kn (fun b hb hb' => by simp only [List.mem_singleton] at hb'; subst hb'; exact hpS hb); have kc := kc.trans kn (fun b hb => by simp only [List.mem_singleton] at hb; subst hb; exact Or.inr hpW))
      refine hK.out _ _ ?_ (fun hHeld20 => ?_)
      · (try dsimp only); exact kc.cell cB (by simp only [List.mem_singleton]; exact hPB)
      clear hK K
      try simp only [Act.put, List.setIfInBounds_toArray, List.set_cons_zero, List.set_cons_succ]
      refine wpAnyH_done (by kernel_rfl) ?_ _
      refine NoPanic.normal ?_
      (go_wp2_with fail; go_meet; case rel => exact ⟨p, rfl, hpW, hpS, Bn, hRc, kc⟩)
  case rest =>
    obtain ⟨p, rfl, hpW, hpS, Bc, hRc, kc⟩ := hcut
    have hpP : p ≠ P := fun h => hpS (h ▸ hRc.self)
    have hpB : p ≠ B := by omega
    have hpR : p ≠ R := by omega
    have Bc : Blk wc p ([Value.string nm, .int .i64 (kd : Nat)] ++ (bs (List.replicate 32 0) ++ [])).toArray 37 := by simpa [ent0, Ent.cells] using Bc
    have Bc := Bc.drew
    have hRc := hRc.keep ((Keep.refl [] wc).drew) (by simp)
    have kc := kc.drew
    clear RF RT
    go_upto_region 2 with fail
    refine wp_region_noPanic ?_
    refine wp_region_held_drew (S := fun w' => w'.cell? ⟨B, 0, none⟩ = some (.pointer (some ⟨P, 0, none⟩))) (by kernel_rfl) ?_ (fun hHeld0 => ?_)
    · (try dsimp only); exact kc.cell cB (by simp only [List.mem_singleton]; exact hPB)
    refine wpAnyH_take (i := 0) (oi := ({ dst := some 12, op := Go.Op.fieldAddr 37 (Go.Operand.tmp 3) 2, type := 0, pos := "tree.go:65", after := #[], guard := none } : Oper)) (v := ?_) rfl (by kernel_rfl) (by kernel_rfl) (by kernel_rfl) (fun _ _ _ h => h) (Or.inl ⟨by rfl, ?_⟩) (by assumption) ?_
    rotate_left
    · (intro w hSw; (try dsimp only at hSw); go_simp; try with_reducible rfl)
    try simp only [Act.put, List.setIfInBounds_toArray, List.set_cons_zero, List.set_cons_succ]
    refine wpAnyH_take (i := 1) (oi := ({ dst := some 13, op := Go.Op.slice 35 (Go.Operand.tmp 12) none none none, type := 26, pos := "tree.go:65", after := #[{ on := 0, ground := Go.Ground.data }], guard := none } : Oper)) (v := ?_) rfl (by kernel_rfl) (by kernel_rfl) (by kernel_rfl) (fun _ _ _ h => h) (Or.inl ⟨by rfl, ?_⟩) (by assumption) ?_
    rotate_left
    · (intro w hSw; (try dsimp only at hSw); go_simp; try with_reducible rfl)
    try simp only [Act.put, List.setIfInBounds_toArray, List.set_cons_zero, List.set_cons_succ]
    refine wpAnyH_take (i := 2) (oi := ({ dst := some 14, op := Go.Op.fieldAddr 69 (Go.Operand.tmp 1) 0, type := 0, pos := "tree.go:65", after := #[], guard := none } : Oper)) (v := ?_) rfl (by kernel_rfl) (by kernel_rfl) (by kernel_rfl) (fun _ _ _ h => h) (Or.inl ⟨by rfl, ?_⟩) (by assumption) ?_
    rotate_left
    · (intro w hSw; (try dsimp only at hSw); go_simp; try with_reducible rfl)
    try simp only [Act.put, List.setIfInBounds_toArray, List.set_cons_zero, List.set_cons_succ]
    refine wpAnyH_take (i := 3) (oi := ({ dst := some 15, op := Go.Op.load 67 (Go.Operand.tmp 14), type := 67, pos := "tree.go:65", after := #[{ on := 2, ground := Go.Ground.data }], guard := none } : Oper)) (v := ?_) rfl (by kernel_rfl) (by kernel_rfl) (by kernel_rfl) (fun _ _ _ h => h) (Or.inl ⟨by rfl, ?_⟩) (by assumption) ?_
    rotate_left
    · (intro w hSw; (try dsimp only at hSw); go_simp; try with_reducible rfl)
    try simp only [Act.put, List.setIfInBounds_toArray, List.set_cons_zero, List.set_cons_succ]
    refine wpAnyH_ready (rs := [4]) (by kernel_rfl) (by simp) ?_
    refine (AllReadyH.cons (o := ({ dst := some 16, op := Go.Op.call { callee := Go.Callee.value (Go.Operand.func 53), args := #[Go.Operand.tmp 15, Go.Operand.const (Go.Value.int Go.IntKind.i64 32)], argTypes := #[67, 3] }, type := 26, pos := "tree.go:65", after := #[{ on := 3, ground := Go.Ground.data }], guard := none } : Oper)) rfl (fun K hK => ?_) AllReadyH.nil)
    go_simp
    (refine (RW.out _ hRc).mono ?_; rintro e w' ⟨a4, q4, c4, rfl, hq4, hqm4, sl4, hRn, kn⟩; have hRc := hRn; have kc := kc.trans kn (by simp); have Bc := Bc.keep kn (by simp only [List.mem_singleton]; exact hpP))
    go_wp2_with fail
    refine hK.out _ _ ?_ (fun hHeld1 => ?_)
    · (try dsimp only); exact kc.cell cB (by simp only [List.mem_singleton]; exact hPB)
    clear hK K
    try simp only [Act.put, List.setIfInBounds_toArray, List.set_cons_zero, List.set_cons_succ]
    refine wpAnyH_ready (rs := [5]) (by kernel_rfl) (by simp) ?_
    refine (AllReadyH.cons (o := ({ dst := some 17, op := Go.Op.call { callee := Go.Callee.builtin Go.Builtin.copy, args := #[Go.Operand.tmp 13, Go.Operand.tmp 16], argTypes := #[26, 26] }, type := 3, pos := "tree.go:65", after := #[{ on := 1, ground := Go.Ground.data }, { on := 4, ground := Go.Ground.data }, { on := 4, ground := Go.Ground.chain }], guard := none } : Oper)) rfl (fun K hK => ?_) AllReadyH.nil)
    (refine step_copyW rfl (.tmp 13) (.tmp 16) 26 26 rfl _ _ rfl rfl (copy_part _ p 2 q4 c4 a4 xs _ [] Bc rfl sl4 hq4 hqm4) ?_; rintro wN ⟨Bn, kn⟩; have hRc := hRc.keep kn (fun b hb hb' => by simp only [List.mem_singleton] at hb'; subst hb'; exact hpS hb); have kc := kc.trans kn (fun b hb => by simp only [List.mem_singleton] at hb; subst hb; exact Or.inr hpW))
    refine hK.out _ _ ?_ (fun hHeld2 => ?_)
    · (try dsimp only); exact kc.cell cB (by simp only [List.mem_singleton]; exact hPB)
    clear hK K
    try simp only [Act.put, List.setIfInBounds_toArray, List.set_cons_zero, List.set_cons_succ]
    refine wpAnyH_done (by kernel_rfl) ?_ _
    refine NoPanic.normal ?_
    skip
    have Bn : Blk wN p (entP nm kd xs).cells.toArray 37 := by simpa [entP, Ent.cells] using Bn
    obtain ⟨x, hx⟩ : ∃ x, entP nm kd xs = x := ⟨_, rfl⟩
    have hxn : x.name = nm := by rw [← hx]; rfl
    have hxk : x.kind = (kd : Nat) := by rw [← hx]; rfl
    rw [hx] at Bn
    have HX := Lib.hid (And.intro hx (And.intro hxn hxk))
    have r1 := rangeAt_of_blk Bn
    have c1 := rangeAt_name r1
    have c2 := rangeAt_kind r1
    rw [hxn] at c1
    rw [hxk] at c2
    have c0 := kc.cell cB (by simp only [List.mem_singleton]; exact hPB)
    have CV := Lib.hid (fun W' k' => valid_any nm W' (by omega) (hT.keep ((k0.trans' kW).trans (kc.trans k' (T := []) (by simp)) (fun b hb => by simp only [List.mem_singleton] at hb; subst hb; exact Or.inr hP0))) : ∀ W', Keep [] wN W' → Calls Tryd.prog 11 #[.string nm] W' fun e w' => e = .returned (.bool (nameB nm)) ∧ Keep [] W' w')
    have CA := Lib.hid (fun ok W' k' => ask_any P S d s3 ok W' (hRc.keep k' (by simp)) : ∀ ok W', Keep [] wN W' → Calls Tryd.prog 38 #[rdr P, .bool ok] W' fun e w' => e = (if ok = true ∧ s3.code = 0 then .returned (.tuple #[]) else .panicked [gone]) ∧ Keep [] W' w')
    have kd0 : (0 : Int) ≤ kd := by omega
    clear hx hxn hxk r1 hq4 hqm4 sl4 hHeld0 kn Bc hRn RW
    obtain ⟨ki, hki⟩ : ∃ k : Int, (kd : Int) = k := ⟨_, rfl⟩
    rw [hki] at c2 kd0
    have HKI := Lib.hid hki
    clear hki
    cases hv : nameB nm with
    | false =>
      have HV := Lib.hid hv
      have CV0 := CV.out
      rw [hv] at CV0
      clear CV
      have CV := Lib.hid CV0
      have CA0 := CA.out false
      simp only [Bool.false_eq_true, false_and, if_false] at CA0
      clear CA
      have CA := Lib.hid CA0
      clear CA0 CV0 hv
      have ke : Keep [] wN wN.drew := (Keep.refl [] wN).drew
      go_upto_region 3 with fail
      refine wp_region_held_drew (S := fun w' => w'.cell? ⟨B, 0, none⟩ = some (.pointer (some ⟨P, 0, none⟩)) ∧ w'.cell? ⟨p, 0, none⟩ = some (.string nm) ∧ w'.cell? ⟨p, 1, none⟩ = some (.int .i64 ki)) (by kernel_rfl) ?_ (fun hHeld0 => ?_)
      · (try dsimp only); exact ⟨ke.cell c0 (by simp), ke.cell c1 (by simp), ke.cell c2 (by simp)⟩
      refine wpAnyH_take (i := 0) (oi := ({ dst := some 18, op := Go.Op.load 69 (Go.Operand.tmp 1), type := 69, pos := "tree.go:66", after := #[], guard := none } : Oper)) (v := ?_) rfl (by kernel_rfl) (by kernel_rfl) (by kernel_rfl) (fun _ _ _ h => h) (Or.inl ⟨by rfl, ?_⟩) (by assumption) ?_
      rotate_left
      · (intro w hSw; (try dsimp only at hSw); have q1 := hSw.1; go_simp; try with_reducible rfl)
      try simp only [Act.put, List.setIfInBounds_toArray, List.set_cons_zero, List.set_cons_succ]
      refine wpAnyH_take (i := 1) (oi := ({ dst := some 19, op := Go.Op.fieldAddr 37 (Go.Operand.tmp 3) 0, type := 0, pos := "tree.go:66", after := #[], guard := none } : Oper)) (v := ?_) rfl (by kernel_rfl) (by kernel_rfl) (by kernel_rfl) (fun _ _ _ h => h) (Or.inl ⟨by rfl, ?_⟩) (by assumption) ?_
      rotate_left
      · (intro w hSw; (try dsimp only at hSw); go_simp; try with_reducible rfl)
      try simp only [Act.put, List.setIfInBounds_toArray, List.set_cons_zero, List.set_cons_succ]
      refine wpAnyH_take (i := 2) (oi := ({ dst := some 20, op := Go.Op.load 9 (Go.Operand.tmp 19), type := 9, pos := "tree.go:66", after := #[{ on := 1, ground := Go.Ground.data }], guard := none } : Oper)) (v := ?_) rfl (by kernel_rfl) (by kernel_rfl) (by kernel_rfl) (fun _ _ _ h => h) (Or.inl ⟨by rfl, ?_⟩) (by assumption) ?_
      rotate_left
      · (intro w hSw; (try dsimp only at hSw); have q1 := hSw.2.1; go_simp; try with_reducible rfl)
      try simp only [Act.put, List.setIfInBounds_toArray, List.set_cons_zero, List.set_cons_succ]
      refine wpAnyH_ready (rs := [3]) (by kernel_rfl) (by simp) ?_
      refine (AllReadyH.cons (o := ({ dst := some 21, op := Go.Op.call { callee := Go.Callee.value (Go.Operand.func 11), args := #[Go.Operand.tmp 20], argTypes := #[9] }, type := 4, pos := "tree.go:66", after := #[{ on := 2, ground := Go.Ground.data }], guard := none } : Oper)) rfl (fun K hK => ?_) AllReadyH.nil)
      go_simp
      (refine (CV.out _ ke).mono ?_; rintro e w' ⟨rfl, kn⟩; have ke := ke.trans' kn)
      go_wp2_with fail
      refine hK.out _ _ ?_ (fun hHeld1 => ?_)
      · (try dsimp only); exact ⟨ke.cell c0 (by simp), ke.cell c1 (by simp), ke.cell c2 (by simp)⟩
      clear hK K
      try simp only [Act.put, List.setIfInBounds_toArray, List.set_cons_zero, List.set_cons_succ]
      refine wpAnyH_take (i := 4) (oi := ({ dst := some 22, op := Go.Op.move (Go.Operand.tmp 21), type := 4, pos := "tree.go:66", after := #[{ on := 3, ground := Go.Ground.data }, { on := 3, ground := Go.Ground.chain }], guard := none } : Oper)) (v := ?_) rfl (by kernel_rfl) (by kernel_rfl) (by kernel_rfl) (fun _ _ _ h => h) (Or.inl ⟨by rfl, ?_⟩) (by assumption) ?_
      rotate_left
      · (intro w hSw; (try dsimp only at hSw); go_simp; try with_reducible rfl)
      try simp only [Act.put, List.setIfInBounds_toArray, List.set_cons_zero, List.set_cons_succ]
      refine wpAnyH_take (i := 5) (oi := ({ dst := some 23, op := Go.Op.fieldAddr 37 (Go.Operand.tmp 3) 1, type := 0, pos := "tree.go:66", after := #[{ on := 4, ground := Go.Ground.guard }], guard := some (4, true) } : Oper)) (v := undef) rfl (by kernel_rfl) (by kernel_rfl) (by kernel_rfl) (fun _ _ _ h => h) (Or.inr ⟨by rfl, rfl⟩) (by assumption) ?_
      try simp only [Act.put, List.setIfInBounds_toArray, List.set_cons_zero, List.set_cons_succ]
      refine wpAnyH_take (i := 6) (oi := ({ dst := some 24, op := Go.Op.load 3 (Go.Operand.tmp 23), type := 3, pos := "tree.go:66", after := #[{ on := 5, ground := Go.Ground.data }, { on := 4, ground := Go.Ground.guard }], guard := some (4, true) } : Oper)) (v := undef) rfl (by kernel_rfl) (by kernel_rfl) (by kernel_rfl) (fun _ _ _ h => h) (Or.inr ⟨by rfl, rfl⟩) (by assumption) ?_
      try simp only [Act.put, List.setIfInBounds_toArray, List.set_cons_zero, List.set_cons_succ]
      refine wpAnyH_take (i := 7) (oi := ({ dst := some 25, op := Go.Op.binOp Go.BinOp.geq 3 (Go.Operand.tmp 24) (Go.Operand.const (Go.Value.int Go.IntKind.i64 1)) 3, type := 4, pos := "tree.go:66", after := #[{ on := 6, ground := Go.Ground.data }, { on := 4, ground := Go.Ground.guard }], guard := some (4, true) } : Oper)) (v := undef) rfl (by kernel_rfl) (by kernel_rfl) (by kernel_rfl) (fun _ _ _ h => h) (Or.inr ⟨by rfl, rfl⟩) (by assumption) ?_
      try simp only [Act.put, List.setIfInBounds_toArray, List.set_cons_zero, List.set_cons_succ]
      refine wpAnyH_take (i := 8) (oi := ({ dst := some 26, op := Go.Op.pick (Go.Operand.tmp 22) (Go.Operand.tmp 25) (Go.Operand.const (Go.Value.bool false)), type := 4, pos := "tree.go:66", after := #[{ on := 4, ground := Go.Ground.data }, { on := 7, ground := Go.Ground.data }], guard := none } : Oper)) (v := ?_) rfl (by kernel_rfl) (by kernel_rfl) (by kernel_rfl) (fun _ _ _ h => h) (Or.inl ⟨by rfl, ?_⟩) (by assumption) ?_
      rotate_left
      · (intro w hSw; (try dsimp only at hSw); go_simp; try with_reducible rfl)
      try simp only [Act.put, List.setIfInBounds_toArray, List.set_cons_zero, List.set_cons_succ]
      refine wpAnyH_take (i := 9) (oi := ({ dst := some 27, op := Go.Op.move (Go.Operand.tmp 26), type := 4, pos := "tree.go:66", after := #[{ on := 8, ground := Go.Ground.data }, { on := 4, ground := Go.Ground.chain }], guard := none } : Oper)) (v := ?_) rfl (by kernel_rfl) (by kernel_rfl) (by kernel_rfl) (fun _ _ _ h => h) (Or.inl ⟨by rfl, ?_⟩) (by assumption) ?_
      rotate_left
      · (intro w hSw; (try dsimp only at hSw); go_simp; try with_reducible rfl)
      try simp only [Act.put, List.setIfInBounds_toArray, List.set_cons_zero, List.set_cons_succ]
      refine wpAnyH_take (i := 10) (oi := ({ dst := some 28, op := Go.Op.fieldAddr 37 (Go.Operand.tmp 3) 1, type := 0, pos := "tree.go:66", after := #[{ on := 9, ground := Go.Ground.guard }], guard := some (9, true) } : Oper)) (v := undef) rfl (by kernel_rfl) (by kernel_rfl) (by kernel_rfl) (fun _ _ _ h => h) (Or.inr ⟨by rfl, rfl⟩) (by assumption) ?_
      try simp only [Act.put, List.setIfInBounds_toArray, List.set_cons_zero, List.set_cons_succ]
      refine wpAnyH_take (i := 11) (oi := ({ dst := some 29, op := Go.Op.load 3 (Go.Operand.tmp 28), type := 3, pos := "tree.go:66", after := #[{ on := 10, ground := Go.Ground.data }, { on := 9, ground := Go.Ground.guard }], guard := some (9, true) } : Oper)) (v := undef) rfl (by kernel_rfl) (by kernel_rfl) (by kernel_rfl) (fun _ _ _ h => h) (Or.inr ⟨by rfl, rfl⟩) (by assumption) ?_
      try simp only [Act.put, List.setIfInBounds_toArray, List.set_cons_zero, List.set_cons_succ]
      refine wpAnyH_take (i := 12) (oi := ({ dst := some 30, op := Go.Op.binOp Go.BinOp.leq 3 (Go.Operand.tmp 29) (Go.Operand.const (Go.Value.int Go.IntKind.i64 3)) 3, type := 4, pos := "tree.go:66", after := #[{ on := 11, ground := Go.Ground.data }, { on := 9, ground := Go.Ground.guard }], guard := some (9, true) } : Oper)) (v := undef) rfl (by kernel_rfl) (by kernel_rfl) (by kernel_rfl) (fun _ _ _ h => h) (Or.inr ⟨by rfl, rfl⟩) (by assumption) ?_
      try simp only [Act.put, List.setIfInBounds_toArray, List.set_cons_zero, List.set_cons_succ]
      refine wpAnyH_take (i := 13) (oi := ({ dst := some 31, op := Go.Op.pick (Go.Operand.tmp 27) (Go.Operand.tmp 30) (Go.Operand.const (Go.Value.bool false)), type := 4, pos := "tree.go:66", after := #[{ on := 9, ground := Go.Ground.data }, { on := 12, ground := Go.Ground.data }], guard := none } : Oper)) (v := ?_) rfl (by kernel_rfl) (by kernel_rfl) (by kernel_rfl) (fun _ _ _ h => h) (Or.inl ⟨by rfl, ?_⟩) (by assumption) ?_
      rotate_left
      · (intro w hSw; (try dsimp only at hSw); go_simp; try with_reducible rfl)
      try simp only [Act.put, List.setIfInBounds_toArray, List.set_cons_zero, List.set_cons_succ]
      refine wpAnyH_ready (rs := [14]) (by kernel_rfl) (by simp) ?_
      refine (AllReadyH.cons (o := ({ dst := some 32, op := Go.Op.call { callee := Go.Callee.value (Go.Operand.func 38), args := #[Go.Operand.tmp 18, Go.Operand.tmp 31], argTypes := #[69, 4] }, type := 0, pos := "tree.go:66", after := #[{ on := 0, ground := Go.Ground.data }, { on := 13, ground := Go.Ground.data }, { on := 9, ground := Go.Ground.chain }], guard := none } : Oper)) rfl (fun K hK => ?_) AllReadyH.nil)
      go_simp
      (refine (CA.out _ ke).mono ?_; rintro e w' ⟨rfl, kn⟩; have ke := ke.trans' kn)
      go_wp2_with fail
      exact ⟨rfl, EnQ.no (by rw [okE_name (x := entP nm kd xs) HV.out]; rfl) (hRc.keep ke (by simp)) (((kW.mono (T := [P]) (by simp)).trans kc (by simp)).trans ke (by simp))⟩
    | true =>
      have HV := Lib.hid hv
      by_cases p1 : ki < 1
      · have d1 : decide (1 ≤ ki) = false := decide_eq_false (by omega)
        have CV0 := CV.out
        rw [hv] at CV0
        clear CV
        have CV := Lib.hid CV0
        have CA0 := CA.out false
        simp only [Bool.false_eq_true, false_and, if_false] at CA0
        clear CA
        have CA := Lib.hid CA0
        clear CA0 CV0 hv
        have ke : Keep [] wN wN.drew := (Keep.refl [] wN).drew
        go_upto_region 3 with fail
        refine wp_region_held_drew (S := fun w' => w'.cell? ⟨B, 0, none⟩ = some (.pointer (some ⟨P, 0, none⟩)) ∧ w'.cell? ⟨p, 0, none⟩ = some (.string nm) ∧ w'.cell? ⟨p, 1, none⟩ = some (.int .i64 ki)) (by kernel_rfl) ?_ (fun hHeld0 => ?_)
        · (try dsimp only); exact ⟨ke.cell c0 (by simp), ke.cell c1 (by simp), ke.cell c2 (by simp)⟩
        refine wpAnyH_take (i := 0) (oi := ({ dst := some 18, op := Go.Op.load 69 (Go.Operand.tmp 1), type := 69, pos := "tree.go:66", after := #[], guard := none } : Oper)) (v := ?_) rfl (by kernel_rfl) (by kernel_rfl) (by kernel_rfl) (fun _ _ _ h => h) (Or.inl ⟨by rfl, ?_⟩) (by assumption) ?_
        rotate_left
        · (intro w hSw; (try dsimp only at hSw); have q1 := hSw.1; go_simp; try with_reducible rfl)
        try simp only [Act.put, List.setIfInBounds_toArray, List.set_cons_zero, List.set_cons_succ]
        refine wpAnyH_take (i := 1) (oi := ({ dst := some 19, op := Go.Op.fieldAddr 37 (Go.Operand.tmp 3) 0, type := 0, pos := "tree.go:66", after := #[], guard := none } : Oper)) (v := ?_) rfl (by kernel_rfl) (by kernel_rfl) (by kernel_rfl) (fun _ _ _ h => h) (Or.inl ⟨by rfl, ?_⟩) (by assumption) ?_
        rotate_left
        · (intro w hSw; (try dsimp only at hSw); go_simp; try with_reducible rfl)
        try simp only [Act.put, List.setIfInBounds_toArray, List.set_cons_zero, List.set_cons_succ]
        refine wpAnyH_take (i := 2) (oi := ({ dst := some 20, op := Go.Op.load 9 (Go.Operand.tmp 19), type := 9, pos := "tree.go:66", after := #[{ on := 1, ground := Go.Ground.data }], guard := none } : Oper)) (v := ?_) rfl (by kernel_rfl) (by kernel_rfl) (by kernel_rfl) (fun _ _ _ h => h) (Or.inl ⟨by rfl, ?_⟩) (by assumption) ?_
        rotate_left
        · (intro w hSw; (try dsimp only at hSw); have q1 := hSw.2.1; go_simp; try with_reducible rfl)
        try simp only [Act.put, List.setIfInBounds_toArray, List.set_cons_zero, List.set_cons_succ]
        refine wpAnyH_ready (rs := [3]) (by kernel_rfl) (by simp) ?_
        refine (AllReadyH.cons (o := ({ dst := some 21, op := Go.Op.call { callee := Go.Callee.value (Go.Operand.func 11), args := #[Go.Operand.tmp 20], argTypes := #[9] }, type := 4, pos := "tree.go:66", after := #[{ on := 2, ground := Go.Ground.data }], guard := none } : Oper)) rfl (fun K hK => ?_) AllReadyH.nil)
        go_simp
        (refine (CV.out _ ke).mono ?_; rintro e w' ⟨rfl, kn⟩; have ke := ke.trans' kn)
        go_wp2_with fail
        refine hK.out _ _ ?_ (fun hHeld1 => ?_)
        · (try dsimp only); exact ⟨ke.cell c0 (by simp), ke.cell c1 (by simp), ke.cell c2 (by simp)⟩
        clear hK K
        try simp only [Act.put, List.setIfInBounds_toArray, List.set_cons_zero, List.set_cons_succ]
        refine wpAnyH_take (i := 4) (oi := ({ dst := some 22, op := Go.Op.move (Go.Operand.tmp 21), type := 4, pos := "tree.go:66", after := #[{ on := 3, ground := Go.Ground.data }, { on := 3, ground := Go.Ground.chain }], guard := none } : Oper)) (v := ?_) rfl (by kernel_rfl) (by kernel_rfl) (by kernel_rfl) (fun _ _ _ h => h) (Or.inl ⟨by rfl, ?_⟩) (by assumption) ?_
        rotate_left
        · (intro w hSw; (try dsimp only at hSw); go_simp; try with_reducible rfl)
        try simp only [Act.put, List.setIfInBounds_toArray, List.set_cons_zero, List.set_cons_succ]
        refine wpAnyH_take (i := 5) (oi := ({ dst := some 23, op := Go.Op.fieldAddr 37 (Go.Operand.tmp 3) 1, type := 0, pos := "tree.go:66", after := #[{ on := 4, ground := Go.Ground.guard }], guard := some (4, true) } : Oper)) (v := ?_) rfl (by kernel_rfl) (by kernel_rfl) (by kernel_rfl) (fun _ _ _ h => h) (Or.inl ⟨by rfl, ?_⟩) (by assumption) ?_
        rotate_left
        · (intro w hSw; (try dsimp only at hSw); go_simp; try with_reducible rfl)
        try simp only [Act.put, List.setIfInBounds_toArray, List.set_cons_zero, List.set_cons_succ]
        refine wpAnyH_take (i := 6) (oi := ({ dst := some 24, op := Go.Op.load 3 (Go.Operand.tmp 23), type := 3, pos := "tree.go:66", after := #[{ on := 5, ground := Go.Ground.data }, { on := 4, ground := Go.Ground.guard }], guard := some (4, true) } : Oper)) (v := ?_) rfl (by kernel_rfl) (by kernel_rfl) (by kernel_rfl) (fun _ _ _ h => h) (Or.inl ⟨by rfl, ?_⟩) (by assumption) ?_
        rotate_left
        · (intro w hSw; (try dsimp only at hSw); have q1 := hSw.2.2; go_simp; try with_reducible rfl)
        try simp only [Act.put, List.setIfInBounds_toArray, List.set_cons_zero, List.set_cons_succ]
        refine wpAnyH_take (i := 7) (oi := ({ dst := some 25, op := Go.Op.binOp Go.BinOp.geq 3 (Go.Operand.tmp 24) (Go.Operand.const (Go.Value.int Go.IntKind.i64 1)) 3, type := 4, pos := "tree.go:66", after := #[{ on := 6, ground := Go.Ground.data }, { on := 4, ground := Go.Ground.guard }], guard := some (4, true) } : Oper)) (v := ?_) rfl (by kernel_rfl) (by kernel_rfl) (by kernel_rfl) (fun _ _ _ h => h) (Or.inl ⟨by rfl, ?_⟩) (by assumption) ?_
        rotate_left
        · (intro w hSw; (try dsimp only at hSw); go_simp; try with_reducible rfl)
        try simp only [Act.put, List.setIfInBounds_toArray, List.set_cons_zero, List.set_cons_succ]
        refine wpAnyH_take (i := 8) (oi := ({ dst := some 26, op := Go.Op.pick (Go.Operand.tmp 22) (Go.Operand.tmp 25) (Go.Operand.const (Go.Value.bool false)), type := 4, pos := "tree.go:66", after := #[{ on := 4, ground := Go.Ground.data }, { on := 7, ground := Go.Ground.data }], guard := none } : Oper)) (v := ?_) rfl (by kernel_rfl) (by kernel_rfl) (by kernel_rfl) (fun _ _ _ h => h) (Or.inl ⟨by rfl, ?_⟩) (by assumption) ?_
        rotate_left
        · (intro w hSw; (try dsimp only at hSw); go_simp; try with_reducible rfl)
        try simp only [Act.put, List.setIfInBounds_toArray, List.set_cons_zero, List.set_cons_succ]
        refine wpAnyH_take (i := 9) (oi := ({ dst := some 27, op := Go.Op.move (Go.Operand.tmp 26), type := 4, pos := "tree.go:66", after := #[{ on := 8, ground := Go.Ground.data }, { on := 4, ground := Go.Ground.chain }], guard := none } : Oper)) (v := ?_) rfl (by kernel_rfl) (by kernel_rfl) (by kernel_rfl) (fun _ _ _ h => h) (Or.inl ⟨by rfl, ?_⟩) (by assumption) ?_
        rotate_left
        · (intro w hSw; (try dsimp only at hSw); go_simp; try with_reducible rfl)
        try simp only [Act.put, List.setIfInBounds_toArray, List.set_cons_zero, List.set_cons_succ]
        refine wpAnyH_take (i := 10) (oi := ({ dst := some 28, op := Go.Op.fieldAddr 37 (Go.Operand.tmp 3) 1, type := 0, pos := "tree.go:66", after := #[{ on := 9, ground := Go.Ground.guard }], guard := some (9, true) } : Oper)) (v := undef) rfl (by kernel_rfl) (by kernel_rfl) (by kernel_rfl) (fun _ _ _ h => h) (Or.inr ⟨by rfl, rfl⟩) (by assumption) ?_
        try simp only [Act.put, List.setIfInBounds_toArray, List.set_cons_zero, List.set_cons_succ]
        refine wpAnyH_take (i := 11) (oi := ({ dst := some 29, op := Go.Op.load 3 (Go.Operand.tmp 28), type := 3, pos := "tree.go:66", after := #[{ on := 10, ground := Go.Ground.data }, { on := 9, ground := Go.Ground.guard }], guard := some (9, true) } : Oper)) (v := undef) rfl (by kernel_rfl) (by kernel_rfl) (by kernel_rfl) (fun _ _ _ h => h) (Or.inr ⟨by rfl, rfl⟩) (by assumption) ?_
        try simp only [Act.put, List.setIfInBounds_toArray, List.set_cons_zero, List.set_cons_succ]
        refine wpAnyH_take (i := 12) (oi := ({ dst := some 30, op := Go.Op.binOp Go.BinOp.leq 3 (Go.Operand.tmp 29) (Go.Operand.const (Go.Value.int Go.IntKind.i64 3)) 3, type := 4, pos := "tree.go:66", after := #[{ on := 11, ground := Go.Ground.data }, { on := 9, ground := Go.Ground.guard }], guard := some (9, true) } : Oper)) (v := undef) rfl (by kernel_rfl) (by kernel_rfl) (by kernel_rfl) (fun _ _ _ h => h) (Or.inr ⟨by rfl, rfl⟩) (by assumption) ?_
        try simp only [Act.put, List.setIfInBounds_toArray, List.set_cons_zero, List.set_cons_succ]
        refine wpAnyH_take (i := 13) (oi := ({ dst := some 31, op := Go.Op.pick (Go.Operand.tmp 27) (Go.Operand.tmp 30) (Go.Operand.const (Go.Value.bool false)), type := 4, pos := "tree.go:66", after := #[{ on := 9, ground := Go.Ground.data }, { on := 12, ground := Go.Ground.data }], guard := none } : Oper)) (v := ?_) rfl (by kernel_rfl) (by kernel_rfl) (by kernel_rfl) (fun _ _ _ h => h) (Or.inl ⟨by rfl, ?_⟩) (by assumption) ?_
        rotate_left
        · (intro w hSw; (try dsimp only at hSw); go_simp; try with_reducible rfl)
        try simp only [Act.put, List.setIfInBounds_toArray, List.set_cons_zero, List.set_cons_succ]
        refine wpAnyH_ready (rs := [14]) (by kernel_rfl) (by simp) ?_
        refine (AllReadyH.cons (o := ({ dst := some 32, op := Go.Op.call { callee := Go.Callee.value (Go.Operand.func 38), args := #[Go.Operand.tmp 18, Go.Operand.tmp 31], argTypes := #[69, 4] }, type := 0, pos := "tree.go:66", after := #[{ on := 0, ground := Go.Ground.data }, { on := 13, ground := Go.Ground.data }, { on := 9, ground := Go.Ground.chain }], guard := none } : Oper)) rfl (fun K hK => ?_) AllReadyH.nil)
        go_simp
        (refine (CA.out _ ke).mono ?_; rintro e w' ⟨rfl, kn⟩; have ke := ke.trans' kn)
        go_wp2_with fail
        exact ⟨rfl, EnQ.no (by rw [okE_kind (x := entP nm kd xs) (Or.inl (by show (kd : Int) < 1; rw [HKI.out]; exact p1))]; rfl) (hRc.keep ke (by simp)) (((kW.mono (T := [P]) (by simp)).trans kc (by simp)).trans ke (by simp))⟩
      have d1 : decide (1 ≤ ki) = true := decide_eq_true (by omega)
      by_cases p2 : 3 < ki
      · have d2 : decide (ki ≤ 3) = false := decide_eq_false (by omega)
        have CV0 := CV.out
        rw [hv] at CV0
        clear CV
        have CV := Lib.hid CV0
        have CA0 := CA.out false
        simp only [Bool.false_eq_true, false_and, if_false] at CA0
        clear CA
        have CA := Lib.hid CA0
        clear CA0 CV0 hv
        have ke : Keep [] wN wN.drew := (Keep.refl [] wN).drew
        go_upto_region 3 with fail
        refine wp_region_held_drew (S := fun w' => w'.cell? ⟨B, 0, none⟩ = some (.pointer (some ⟨P, 0, none⟩)) ∧ w'.cell? ⟨p, 0, none⟩ = some (.string nm) ∧ w'.cell? ⟨p, 1, none⟩ = some (.int .i64 ki)) (by kernel_rfl) ?_ (fun hHeld0 => ?_)
        · (try dsimp only); exact ⟨ke.cell c0 (by simp), ke.cell c1 (by simp), ke.cell c2 (by simp)⟩
        refine wpAnyH_take (i := 0) (oi := ({ dst := some 18, op := Go.Op.load 69 (Go.Operand.tmp 1), type := 69, pos := "tree.go:66", after := #[], guard := none } : Oper)) (v := ?_) rfl (by kernel_rfl) (by kernel_rfl) (by kernel_rfl) (fun _ _ _ h => h) (Or.inl ⟨by rfl, ?_⟩) (by assumption) ?_
        rotate_left
        · (intro w hSw; (try dsimp only at hSw); have q1 := hSw.1; go_simp; try with_reducible rfl)
        try simp only [Act.put, List.setIfInBounds_toArray, List.set_cons_zero, List.set_cons_succ]
        refine wpAnyH_take (i := 1) (oi := ({ dst := some 19, op := Go.Op.fieldAddr 37 (Go.Operand.tmp 3) 0, type := 0, pos := "tree.go:66", after := #[], guard := none } : Oper)) (v := ?_) rfl (by kernel_rfl) (by kernel_rfl) (by kernel_rfl) (fun _ _ _ h => h) (Or.inl ⟨by rfl, ?_⟩) (by assumption) ?_
        rotate_left
        · (intro w hSw; (try dsimp only at hSw); go_simp; try with_reducible rfl)
        try simp only [Act.put, List.setIfInBounds_toArray, List.set_cons_zero, List.set_cons_succ]
        refine wpAnyH_take (i := 2) (oi := ({ dst := some 20, op := Go.Op.load 9 (Go.Operand.tmp 19), type := 9, pos := "tree.go:66", after := #[{ on := 1, ground := Go.Ground.data }], guard := none } : Oper)) (v := ?_) rfl (by kernel_rfl) (by kernel_rfl) (by kernel_rfl) (fun _ _ _ h => h) (Or.inl ⟨by rfl, ?_⟩) (by assumption) ?_
        rotate_left
        · (intro w hSw; (try dsimp only at hSw); have q1 := hSw.2.1; go_simp; try with_reducible rfl)
        try simp only [Act.put, List.setIfInBounds_toArray, List.set_cons_zero, List.set_cons_succ]
        refine wpAnyH_ready (rs := [3]) (by kernel_rfl) (by simp) ?_
        refine (AllReadyH.cons (o := ({ dst := some 21, op := Go.Op.call { callee := Go.Callee.value (Go.Operand.func 11), args := #[Go.Operand.tmp 20], argTypes := #[9] }, type := 4, pos := "tree.go:66", after := #[{ on := 2, ground := Go.Ground.data }], guard := none } : Oper)) rfl (fun K hK => ?_) AllReadyH.nil)
        go_simp
        (refine (CV.out _ ke).mono ?_; rintro e w' ⟨rfl, kn⟩; have ke := ke.trans' kn)
        go_wp2_with fail
        refine hK.out _ _ ?_ (fun hHeld1 => ?_)
        · (try dsimp only); exact ⟨ke.cell c0 (by simp), ke.cell c1 (by simp), ke.cell c2 (by simp)⟩
        clear hK K
        try simp only [Act.put, List.setIfInBounds_toArray, List.set_cons_zero, List.set_cons_succ]
        refine wpAnyH_take (i := 4) (oi := ({ dst := some 22, op := Go.Op.move (Go.Operand.tmp 21), type := 4, pos := "tree.go:66", after := #[{ on := 3, ground := Go.Ground.data }, { on := 3, ground := Go.Ground.chain }], guard := none } : Oper)) (v := ?_) rfl (by kernel_rfl) (by kernel_rfl) (by kernel_rfl) (fun _ _ _ h => h) (Or.inl ⟨by rfl, ?_⟩) (by assumption) ?_
        rotate_left
        · (intro w hSw; (try dsimp only at hSw); go_simp; try with_reducible rfl)
        try simp only [Act.put, List.setIfInBounds_toArray, List.set_cons_zero, List.set_cons_succ]
        refine wpAnyH_take (i := 5) (oi := ({ dst := some 23, op := Go.Op.fieldAddr 37 (Go.Operand.tmp 3) 1, type := 0, pos := "tree.go:66", after := #[{ on := 4, ground := Go.Ground.guard }], guard := some (4, true) } : Oper)) (v := ?_) rfl (by kernel_rfl) (by kernel_rfl) (by kernel_rfl) (fun _ _ _ h => h) (Or.inl ⟨by rfl, ?_⟩) (by assumption) ?_
        rotate_left
        · (intro w hSw; (try dsimp only at hSw); go_simp; try with_reducible rfl)
        try simp only [Act.put, List.setIfInBounds_toArray, List.set_cons_zero, List.set_cons_succ]
        refine wpAnyH_take (i := 6) (oi := ({ dst := some 24, op := Go.Op.load 3 (Go.Operand.tmp 23), type := 3, pos := "tree.go:66", after := #[{ on := 5, ground := Go.Ground.data }, { on := 4, ground := Go.Ground.guard }], guard := some (4, true) } : Oper)) (v := ?_) rfl (by kernel_rfl) (by kernel_rfl) (by kernel_rfl) (fun _ _ _ h => h) (Or.inl ⟨by rfl, ?_⟩) (by assumption) ?_
        rotate_left
        · (intro w hSw; (try dsimp only at hSw); have q1 := hSw.2.2; go_simp; try with_reducible rfl)
        try simp only [Act.put, List.setIfInBounds_toArray, List.set_cons_zero, List.set_cons_succ]
        refine wpAnyH_take (i := 7) (oi := ({ dst := some 25, op := Go.Op.binOp Go.BinOp.geq 3 (Go.Operand.tmp 24) (Go.Operand.const (Go.Value.int Go.IntKind.i64 1)) 3, type := 4, pos := "tree.go:66", after := #[{ on := 6, ground := Go.Ground.data }, { on := 4, ground := Go.Ground.guard }], guard := some (4, true) } : Oper)) (v := ?_) rfl (by kernel_rfl) (by kernel_rfl) (by kernel_rfl) (fun _ _ _ h => h) (Or.inl ⟨by rfl, ?_⟩) (by assumption) ?_
        rotate_left
        · (intro w hSw; (try dsimp only at hSw); go_simp; try with_reducible rfl)
        try simp only [Act.put, List.setIfInBounds_toArray, List.set_cons_zero, List.set_cons_succ]
        refine wpAnyH_take (i := 8) (oi := ({ dst := some 26, op := Go.Op.pick (Go.Operand.tmp 22) (Go.Operand.tmp 25) (Go.Operand.const (Go.Value.bool false)), type := 4, pos := "tree.go:66", after := #[{ on := 4, ground := Go.Ground.data }, { on := 7, ground := Go.Ground.data }], guard := none } : Oper)) (v := ?_) rfl (by kernel_rfl) (by kernel_rfl) (by kernel_rfl) (fun _ _ _ h => h) (Or.inl ⟨by rfl, ?_⟩) (by assumption) ?_
        rotate_left
        · (intro w hSw; (try dsimp only at hSw); go_simp; try with_reducible rfl)
        try simp only [Act.put, List.setIfInBounds_toArray, List.set_cons_zero, List.set_cons_succ]
        refine wpAnyH_take (i := 9) (oi := ({ dst := some 27, op := Go.Op.move (Go.Operand.tmp 26), type := 4, pos := "tree.go:66", after := #[{ on := 8, ground := Go.Ground.data }, { on := 4, ground := Go.Ground.chain }], guard := none } : Oper)) (v := ?_) rfl (by kernel_rfl) (by kernel_rfl) (by kernel_rfl) (fun _ _ _ h => h) (Or.inl ⟨by rfl, ?_⟩) (by assumption) ?_
        rotate_left
        · (intro w hSw; (try dsimp only at hSw); go_simp; try with_reducible rfl)
        try simp only [Act.put, List.setIfInBounds_toArray, List.set_cons_zero, List.set_cons_succ]
        refine wpAnyH_take (i := 10) (oi := ({ dst := some 28, op := Go.Op.fieldAddr 37 (Go.Operand.tmp 3) 1, type := 0, pos := "tree.go:66", after := #[{ on := 9, ground := Go.Ground.guard }], guard := some (9, true) } : Oper)) (v := ?_) rfl (by kernel_rfl) (by kernel_rfl) (by kernel_rfl) (fun _ _ _ h => h) (Or.inl ⟨by rfl, ?_⟩) (by assumption) ?_
        rotate_left
        · (intro w hSw; (try dsimp only at hSw); go_simp; try with_reducible rfl)
        try simp only [Act.put, List.setIfInBounds_toArray, List.set_cons_zero, List.set_cons_succ]
        refine wpAnyH_take (i := 11) (oi := ({ dst := some 29, op := Go.Op.load 3 (Go.Operand.tmp 28), type := 3, pos := "tree.go:66", after := #[{ on := 10, ground := Go.Ground.data }, { on := 9, ground := Go.Ground.guard }], guard := some (9, true) } : Oper)) (v := ?_) rfl (by kernel_rfl) (by kernel_rfl) (by kernel_rfl) (fun _ _ _ h => h) (Or.inl ⟨by rfl, ?_⟩) (by assumption) ?_
        rotate_left
        · (intro w hSw; (try dsimp only at hSw); have q1 := hSw.2.2; go_simp; try with_reducible rfl)
        try simp only [Act.put, List.setIfInBounds_toArray, List.set_cons_zero, List.set_cons_succ]
        refine wpAnyH_take (i := 12) (oi := ({ dst := some 30, op := Go.Op.binOp Go.BinOp.leq 3 (Go.Operand.tmp 29) (Go.Operand.const (Go.Value.int Go.IntKind.i64 3)) 3, type := 4, pos := "tree.go:66", after := #[{ on := 11, ground := Go.Ground.data }, { on := 9, ground := Go.Ground.guard }], guard := some (9, true) } : Oper)) (v := ?_) rfl (by kernel_rfl) (by kernel_rfl) (by kernel_rfl) (fun _ _ _ h => h) (Or.inl ⟨by rfl, ?_⟩) (by assumption) ?_
        rotate_left
        · (intro w hSw; (try dsimp only at hSw); go_simp; try with_reducible rfl)
        try simp only [Act.put, List.setIfInBounds_toArray, List.set_cons_zero, List.set_cons_succ]
        refine wpAnyH_take (i := 13) (oi := ({ dst := some 31, op := Go.Op.pick (Go.Operand.tmp 27) (Go.Operand.tmp 30) (Go.Operand.const (Go.Value.bool false)), type := 4, pos := "tree.go:66", after := #[{ on := 9, ground := Go.Ground.data }, { on := 12, ground := Go.Ground.data }], guard := none } : Oper)) (v := ?_) rfl (by kernel_rfl) (by kernel_rfl) (by kernel_rfl) (fun _ _ _ h => h) (Or.inl ⟨by rfl, ?_⟩) (by assumption) ?_
        rotate_left
        · (intro w hSw; (try dsimp only at hSw); go_simp; try with_reducible rfl)
        try simp only [Act.put, List.setIfInBounds_toArray, List.set_cons_zero, List.set_cons_succ]
        refine wpAnyH_ready (rs := [14]) (by kernel_rfl) (by simp) ?_
        refine (AllReadyH.cons (o := ({ dst := some 32, op := Go.Op.call { callee := Go.Callee.value (Go.Operand.func 38), args := #[Go.Operand.tmp 18, Go.Operand.tmp 31], argTypes := #[69, 4] }, type := 0, pos := "tree.go:66", after := #[{ on := 0, ground := Go.Ground.data }, { on := 13, ground := Go.Ground.data }, { on := 9, ground := Go.Ground.chain }], guard := none } : Oper)) rfl (fun K hK => ?_) AllReadyH.nil)
        go_simp
        (refine (CA.out _ ke).mono ?_; rintro e w' ⟨rfl, kn⟩; have ke := ke.trans' kn)
        go_wp2_with fail
        exact ⟨rfl, EnQ.no (by rw [okE_kind (x := entP nm kd xs) (Or.inr (by show 3 < (kd : Int); rw [HKI.out]; exact p2))]; rfl) (hRc.keep ke (by simp)) (((kW.mono (T := [P]) (by simp)).trans kc (by simp)).trans ke (by simp))⟩
      have d2 : decide (ki ≤ 3) = true := decide_eq_true (by omega)
      have HOK := Lib.hid (okE_yes (x := entP nm kd xs) HV.out (by show ¬ (kd : Int) < 1; rw [HKI.out]; exact p1) (by show ¬ 3 < (kd : Int); rw [HKI.out]; exact p2))
      by_cases p3 : s3.code = 0
      case neg =>
        have HC := Lib.hid p3
        have CV0 := CV.out
        rw [hv] at CV0
        clear CV
        have CV := Lib.hid CV0
        have CA0 := CA.out true
        simp only [p3, and_false, if_false] at CA0
        clear CA
        have CA := Lib.hid CA0
        clear CA0 CV0 hv p3
        have ke : Keep [] wN wN.drew := (Keep.refl [] wN).drew
        go_upto_region 3 with fail
        refine wp_region_held_drew (S := fun w' => w'.cell? ⟨B, 0, none⟩ = some (.pointer (some ⟨P, 0, none⟩)) ∧ w'.cell? ⟨p, 0, none⟩ = some (.string nm) ∧ w'.cell? ⟨p, 1, none⟩ = some (.int .i64 ki)) (by kernel_rfl) ?_ (fun hHeld0 => ?_)
        · (try dsimp only); exact ⟨ke.cell c0 (by simp), ke.cell c1 (by simp), ke.cell c2 (by simp)⟩
        refine wpAnyH_take (i := 0) (oi := ({ dst := some 18, op := Go.Op.load 69 (Go.Operand.tmp 1), type := 69, pos := "tree.go:66", after := #[], guard := none } : Oper)) (v := ?_) rfl (by kernel_rfl) (by kernel_rfl) (by kernel_rfl) (fun _ _ _ h => h) (Or.inl ⟨by rfl, ?_⟩) (by assumption) ?_
        rotate_left
        · (intro w hSw; (try dsimp only at hSw); have q1 := hSw.1; go_simp; try with_reducible rfl)
        try simp only [Act.put, List.setIfInBounds_toArray, List.set_cons_zero, List.set_cons_succ]
        refine wpAnyH_take (i := 1) (oi := ({ dst := some 19, op := Go.Op.fieldAddr 37 (Go.Operand.tmp 3) 0, type := 0, pos := "tree.go:66", after := #[], guard := none } : Oper)) (v := ?_) rfl (by kernel_rfl) (by kernel_rfl) (by kernel_rfl) (fun _ _ _ h => h) (Or.inl ⟨by rfl, ?_⟩) (by assumption) ?_
        rotate_left
        · (intro w hSw; (try dsimp only at hSw); go_simp; try with_reducible rfl)
        try simp only [Act.put, List.setIfInBounds_toArray, List.set_cons_zero, List.set_cons_succ]
        refine wpAnyH_take (i := 2) (oi := ({ dst := some 20, op := Go.Op.load 9 (Go.Operand.tmp 19), type := 9, pos := "tree.go:66", after := #[{ on := 1, ground := Go.Ground.data }], guard := none } : Oper)) (v := ?_) rfl (by kernel_rfl) (by kernel_rfl) (by kernel_rfl) (fun _ _ _ h => h) (Or.inl ⟨by rfl, ?_⟩) (by assumption) ?_
        rotate_left
        · (intro w hSw; (try dsimp only at hSw); have q1 := hSw.2.1; go_simp; try with_reducible rfl)
        try simp only [Act.put, List.setIfInBounds_toArray, List.set_cons_zero, List.set_cons_succ]
        refine wpAnyH_ready (rs := [3]) (by kernel_rfl) (by simp) ?_
        refine (AllReadyH.cons (o := ({ dst := some 21, op := Go.Op.call { callee := Go.Callee.value (Go.Operand.func 11), args := #[Go.Operand.tmp 20], argTypes := #[9] }, type := 4, pos := "tree.go:66", after := #[{ on := 2, ground := Go.Ground.data }], guard := none } : Oper)) rfl (fun K hK => ?_) AllReadyH.nil)
        go_simp
        (refine (CV.out _ ke).mono ?_; rintro e w' ⟨rfl, kn⟩; have ke := ke.trans' kn)
        go_wp2_with fail
        refine hK.out _ _ ?_ (fun hHeld1 => ?_)
        · (try dsimp only); exact ⟨ke.cell c0 (by simp), ke.cell c1 (by simp), ke.cell c2 (by simp)⟩
        clear hK K
        try simp only [Act.put, List.setIfInBounds_toArray, List.set_cons_zero, List.set_cons_succ]
        refine wpAnyH_take (i := 4) (oi := ({ dst := some 22, op := Go.Op.move (Go.Operand.tmp 21), type := 4, pos := "tree.go:66", after := #[{ on := 3, ground := Go.Ground.data }, { on := 3, ground := Go.Ground.chain }], guard := none } : Oper)) (v := ?_) rfl (by kernel_rfl) (by kernel_rfl) (by kernel_rfl) (fun _ _ _ h => h) (Or.inl ⟨by rfl, ?_⟩) (by assumption) ?_
        rotate_left
        · (intro w hSw; (try dsimp only at hSw); go_simp; try with_reducible rfl)
        try simp only [Act.put, List.setIfInBounds_toArray, List.set_cons_zero, List.set_cons_succ]
        refine wpAnyH_take (i := 5) (oi := ({ dst := some 23, op := Go.Op.fieldAddr 37 (Go.Operand.tmp 3) 1, type := 0, pos := "tree.go:66", after := #[{ on := 4, ground := Go.Ground.guard }], guard := some (4, true) } : Oper)) (v := ?_) rfl (by kernel_rfl) (by kernel_rfl) (by kernel_rfl) (fun _ _ _ h => h) (Or.inl ⟨by rfl, ?_⟩) (by assumption) ?_
        rotate_left
        · (intro w hSw; (try dsimp only at hSw); go_simp; try with_reducible rfl)
        try simp only [Act.put, List.setIfInBounds_toArray, List.set_cons_zero, List.set_cons_succ]
        refine wpAnyH_take (i := 6) (oi := ({ dst := some 24, op := Go.Op.load 3 (Go.Operand.tmp 23), type := 3, pos := "tree.go:66", after := #[{ on := 5, ground := Go.Ground.data }, { on := 4, ground := Go.Ground.guard }], guard := some (4, true) } : Oper)) (v := ?_) rfl (by kernel_rfl) (by kernel_rfl) (by kernel_rfl) (fun _ _ _ h => h) (Or.inl ⟨by rfl, ?_⟩) (by assumption) ?_
        rotate_left
        · (intro w hSw; (try dsimp only at hSw); have q1 := hSw.2.2; go_simp; try with_reducible rfl)
        try simp only [Act.put, List.setIfInBounds_toArray, List.set_cons_zero, List.set_cons_succ]
        refine wpAnyH_take (i := 7) (oi := ({ dst := some 25, op := Go.Op.binOp Go.BinOp.geq 3 (Go.Operand.tmp 24) (Go.Operand.const (Go.Value.int Go.IntKind.i64 1)) 3, type := 4, pos := "tree.go:66", after := #[{ on := 6, ground := Go.Ground.data }, { on := 4, ground := Go.Ground.guard }], guard := some (4, true) } : Oper)) (v := ?_) rfl (by kernel_rfl) (by kernel_rfl) (by kernel_rfl) (fun _ _ _ h => h) (Or.inl ⟨by rfl, ?_⟩) (by assumption) ?_
        rotate_left
        · (intro w hSw; (try dsimp only at hSw); go_simp; try with_reducible rfl)
        try simp only [Act.put, List.setIfInBounds_toArray, List.set_cons_zero, List.set_cons_succ]
        refine wpAnyH_take (i := 8) (oi := ({ dst := some 26, op := Go.Op.pick (Go.Operand.tmp 22) (Go.Operand.tmp 25) (Go.Operand.const (Go.Value.bool false)), type := 4, pos := "tree.go:66", after := #[{ on := 4, ground := Go.Ground.data }, { on := 7, ground := Go.Ground.data }], guard := none } : Oper)) (v := ?_) rfl (by kernel_rfl) (by kernel_rfl) (by kernel_rfl) (fun _ _ _ h => h) (Or.inl ⟨by rfl, ?_⟩) (by assumption) ?_
        rotate_left
        · (intro w hSw; (try dsimp only at hSw); go_simp; try with_reducible rfl)
        try simp only [Act.put, List.setIfInBounds_toArray, List.set_cons_zero, List.set_cons_succ]
        refine wpAnyH_take (i := 9) (oi := ({ dst := some 27, op := Go.Op.move (Go.Operand.tmp 26), type := 4, pos := "tree.go:66", after := #[{ on := 8, ground := Go.Ground.data }, { on := 4, ground := Go.Ground.chain }], guard := none } : Oper)) (v := ?_) rfl (by kernel_rfl) (by kernel_rfl) (by kernel_rfl) (fun _ _ _ h => h) (Or.inl ⟨by rfl, ?_⟩) (by assumption) ?_
        rotate_left
        · (intro w hSw; (try dsimp only at hSw); go_simp; try with_reducible rfl)
        try simp only [Act.put, List.setIfInBounds_toArray, List.set_cons_zero, List.set_cons_succ]
        refine wpAnyH_take (i := 10) (oi := ({ dst := some 28, op := Go.Op.fieldAddr 37 (Go.Operand.tmp 3) 1, type := 0, pos := "tree.go:66", after := #[{ on := 9, ground := Go.Ground.guard }], guard := some (9, true) } : Oper)) (v := ?_) rfl (by kernel_rfl) (by kernel_rfl) (by kernel_rfl) (fun _ _ _ h => h) (Or.inl ⟨by rfl, ?_⟩) (by assumption) ?_
        rotate_left
        · (intro w hSw; (try dsimp only at hSw); go_simp; try with_reducible rfl)
        try simp only [Act.put, List.setIfInBounds_toArray, List.set_cons_zero, List.set_cons_succ]
        refine wpAnyH_take (i := 11) (oi := ({ dst := some 29, op := Go.Op.load 3 (Go.Operand.tmp 28), type := 3, pos := "tree.go:66", after := #[{ on := 10, ground := Go.Ground.data }, { on := 9, ground := Go.Ground.guard }], guard := some (9, true) } : Oper)) (v := ?_) rfl (by kernel_rfl) (by kernel_rfl) (by kernel_rfl) (fun _ _ _ h => h) (Or.inl ⟨by rfl, ?_⟩) (by assumption) ?_
        rotate_left
        · (intro w hSw; (try dsimp only at hSw); have q1 := hSw.2.2; go_simp; try with_reducible rfl)
        try simp only [Act.put, List.setIfInBounds_toArray, List.set_cons_zero, List.set_cons_succ]
        refine wpAnyH_take (i := 12) (oi := ({ dst := some 30, op := Go.Op.binOp Go.BinOp.leq 3 (Go.Operand.tmp 29) (Go.Operand.const (Go.Value.int Go.IntKind.i64 3)) 3, type := 4, pos := "tree.go:66", after := #[{ on := 11, ground := Go.Ground.data }, { on := 9, ground := Go.Ground.guard }], guard := some (9, true) } : Oper)) (v := ?_) rfl (by kernel_rfl) (by kernel_rfl) (by kernel_rfl) (fun _ _ _ h => h) (Or.inl ⟨by rfl, ?_⟩) (by assumption) ?_
        rotate_left
        · (intro w hSw; (try dsimp only at hSw); go_simp; try with_reducible rfl)
        try simp only [Act.put, List.setIfInBounds_toArray, List.set_cons_zero, List.set_cons_succ]
        refine wpAnyH_take (i := 13) (oi := ({ dst := some 31, op := Go.Op.pick (Go.Operand.tmp 27) (Go.Operand.tmp 30) (Go.Operand.const (Go.Value.bool false)), type := 4, pos := "tree.go:66", after := #[{ on := 9, ground := Go.Ground.data }, { on := 12, ground := Go.Ground.data }], guard := none } : Oper)) (v := ?_) rfl (by kernel_rfl) (by kernel_rfl) (by kernel_rfl) (fun _ _ _ h => h) (Or.inl ⟨by rfl, ?_⟩) (by assumption) ?_
        rotate_left
        · (intro w hSw; (try dsimp only at hSw); go_simp; try with_reducible rfl)
        try simp only [Act.put, List.setIfInBounds_toArray, List.set_cons_zero, List.set_cons_succ]
        refine wpAnyH_ready (rs := [14]) (by kernel_rfl) (by simp) ?_
        refine (AllReadyH.cons (o := ({ dst := some 32, op := Go.Op.call { callee := Go.Callee.value (Go.Operand.func 38), args := #[Go.Operand.tmp 18, Go.Operand.tmp 31], argTypes := #[69, 4] }, type := 0, pos := "tree.go:66", after := #[{ on := 0, ground := Go.Ground.data }, { on := 13, ground := Go.Ground.data }, { on := 9, ground := Go.Ground.chain }], guard := none } : Oper)) rfl (fun K hK => ?_) AllReadyH.nil)
        go_simp
        (refine (CA.out _ ke).mono ?_; rintro e w' ⟨rfl, kn⟩; have ke := ke.trans' kn)
        go_wp2_with fail
        exact ⟨rfl, EnQ.no (by rw [decide_eq_false HC.out, Bool.and_false]) (hRc.keep ke (by simp)) (((kW.mono (T := [P]) (by simp)).trans kc (by simp)).trans ke (by simp))⟩
      have HC := Lib.hid p3
      have CV0 := CV.out
      rw [hv] at CV0
      clear CV
      have CV := Lib.hid CV0
      have CA0 := CA.out true
      simp only [p3, and_self, if_true] at CA0
      clear CA
      have CA := Lib.hid CA0
      clear CA0 CV0 hv p3
      have ke : Keep [] wN wN.drew := (Keep.refl [] wN).drew
      go_upto_region 3 with fail
      refine wp_region_noPanic ?_
      refine wp_region_held_drew (S := fun w' => w'.cell? ⟨B, 0, none⟩ = some (.pointer (some ⟨P, 0, none⟩)) ∧ w'.cell? ⟨p, 0, none⟩ = some (.string nm) ∧ w'.cell? ⟨p, 1, none⟩ = some (.int .i64 ki)) (by kernel_rfl) ?_ (fun hHeld0 => ?_)
      · (try dsimp only); exact ⟨ke.cell c0 (by simp), ke.cell c1 (by simp), ke.cell c2 (by simp)⟩
      refine wpAnyH_take (i := 0) (oi := ({ dst := some 18, op := Go.Op.load 69 (Go.Operand.tmp 1), type := 69, pos := "tree.go:66", after := #[], guard := none } : Oper)) (v := ?_) rfl (by kernel_rfl) (by kernel_rfl) (by kernel_rfl) (fun _ _ _ h => h) (Or.inl ⟨by rfl, ?_⟩) (by assumption) ?_
      rotate_left
      · (intro w hSw; (try dsimp only at hSw); have q1 := hSw.1; go_simp; try with_reducible rfl)
      try simp only [Act.put, List.setIfInBounds_toArray, List.set_cons_zero, List.set_cons_succ]
      refine wpAnyH_take (i := 1) (oi := ({ dst := some 19, op := Go.Op.fieldAddr 37 (Go.Operand.tmp 3) 0, type := 0, pos := "tree.go:66", after := #[], guard := none } : Oper)) (v := ?_) rfl (by kernel_rfl) (by kernel_rfl) (by kernel_rfl) (fun _ _ _ h => h) (Or.inl ⟨by rfl, ?_⟩) (by assumption) ?_
      rotate_left
      · (intro w hSw; (try dsimp only at hSw); go_simp; try with_reducible rfl)
      try simp only [Act.put, List.setIfInBounds_toArray, List.set_cons_zero, List.set_cons_succ]
      refine wpAnyH_take (i := 2) (oi := ({ dst := some 20, op := Go.Op.load 9 (Go.Operand.tmp 19), type := 9, pos := "tree.go:66", after := #[{ on := 1, ground := Go.Ground.data }], guard := none } : Oper)) (v := ?_) rfl (by kernel_rfl) (by kernel_rfl) (by kernel_rfl) (fun _ _ _ h => h) (Or.inl ⟨by rfl, ?_⟩) (by assumption) ?_
      rotate_left
      · (intro w hSw; (try dsimp only at hSw); have q1 := hSw.2.1; go_simp; try with_reducible rfl)
      try simp only [Act.put, List.setIfInBounds_toArray, List.set_cons_zero, List.set_cons_succ]
      refine wpAnyH_ready (rs := [3]) (by kernel_rfl) (by simp) ?_
      refine (AllReadyH.cons (o := ({ dst := some 21, op := Go.Op.call { callee := Go.Callee.value (Go.Operand.func 11), args := #[Go.Operand.tmp 20], argTypes := #[9] }, type := 4, pos := "tree.go:66", after := #[{ on := 2, ground := Go.Ground.data }], guard := none } : Oper)) rfl (fun K hK => ?_) AllReadyH.nil)
      go_simp
      (refine (CV.out _ ke).mono ?_; rintro e w' ⟨rfl, kn⟩; have ke := ke.trans' kn)
      go_wp2_with fail
      refine hK.out _ _ ?_ (fun hHeld1 => ?_)
      · (try dsimp only); exact ⟨ke.cell c0 (by simp), ke.cell c1 (by simp), ke.cell c2 (by simp)⟩
      clear hK K
      try simp only [Act.put, List.setIfInBounds_toArray, List.set_cons_zero, List.set_cons_succ]
      refine wpAnyH_take (i := 4) (oi := ({ dst := some 22, op := Go.Op.move (Go.Operand.tmp 21), type := 4, pos := "tree.go:66", after := #[{ on := 3, ground := Go.Ground.data }, { on := 3, ground := Go.Ground.chain }], guard := none } : Oper)) (v := ?_) rfl (by kernel_rfl) (by kernel_rfl) (by kernel_rfl) (fun _ _ _ h => h) (Or.inl ⟨by rfl, ?_⟩) (by assumption) ?_
      rotate_left
      · (intro w hSw; (try dsimp only at hSw); go_simp; try with_reducible rfl)
      try simp only [Act.put, List.setIfInBounds_toArray, List.set_cons_zero, List.set_cons_succ]
      refine wpAnyH_take (i := 5) (oi := ({ dst := some 23, op := Go.Op.fieldAddr 37 (Go.Operand.tmp 3) 1, type := 0, pos := "tree.go:66", after := #[{ on := 4, ground := Go.Ground.guard }], guard := some (4, true) } : Oper)) (v := ?_) rfl (by kernel_rfl) (by kernel_rfl) (by kernel_rfl) (fun _ _ _ h => h) (Or.inl ⟨by rfl, ?_⟩) (by assumption) ?_
      rotate_left
      · (intro w hSw; (try dsimp only at hSw); go_simp; try with_reducible rfl)
      try simp only [Act.put, List.setIfInBounds_toArray, List.set_cons_zero, List.set_cons_succ]
      refine wpAnyH_take (i := 6) (oi := ({ dst := some 24, op := Go.Op.load 3 (Go.Operand.tmp 23), type := 3, pos := "tree.go:66", after := #[{ on := 5, ground := Go.Ground.data }, { on := 4, ground := Go.Ground.guard }], guard := some (4, true) } : Oper)) (v := ?_) rfl (by kernel_rfl) (by kernel_rfl) (by kernel_rfl) (fun _ _ _ h => h) (Or.inl ⟨by rfl, ?_⟩) (by assumption) ?_
      rotate_left
      · (intro w hSw; (try dsimp only at hSw); have q1 := hSw.2.2; go_simp; try with_reducible rfl)
      try simp only [Act.put, List.setIfInBounds_toArray, List.set_cons_zero, List.set_cons_succ]
      refine wpAnyH_take (i := 7) (oi := ({ dst := some 25, op := Go.Op.binOp Go.BinOp.geq 3 (Go.Operand.tmp 24) (Go.Operand.const (Go.Value.int Go.IntKind.i64 1)) 3, type := 4, pos := "tree.go:66", after := #[{ on := 6, ground := Go.Ground.data }, { on := 4, ground := Go.Ground.guard }], guard := some (4, true) } : Oper)) (v := ?_) rfl (by kernel_rfl) (by kernel_rfl) (by kernel_rfl) (fun _ _ _ h => h) (Or.inl ⟨by rfl, ?_⟩) (by assumption) ?_
      rotate_left
      · (intro w hSw; (try dsimp only at hSw); go_simp; try with_reducible rfl)
      try simp only [Act.put, List.setIfInBounds_toArray, List.set_cons_zero, List.set_cons_succ]
      refine wpAnyH_take (i := 8) (oi := ({ dst := some 26, op := Go.Op.pick (Go.Operand.tmp 22) (Go.Operand.tmp 25) (Go.Operand.const (Go.Value.bool false)), type := 4, pos := "tree.go:66", after := #[{ on := 4, ground := Go.Ground.data }, { on := 7, ground := Go.Ground.data }], guard := none } : Oper)) (v := ?_) rfl (by kernel_rfl) (by kernel_rfl) (by kernel_rfl) (fun _ _ _ h => h) (Or.inl ⟨by rfl, ?_⟩) (by assumption) ?_
      rotate_left
      · (intro w hSw; (try dsimp only at hSw); go_simp; try with_reducible rfl)
      try simp only [Act.put, List.setIfInBounds_toArray, List.set_cons_zero, List.set_cons_succ]
      refine wpAnyH_take (i := 9) (oi := ({ dst := some 27, op := Go.Op.move (Go.Operand.tmp 26), type := 4, pos := "tree.go:66", after := #[{ on := 8, ground := Go.Ground.data }, { on := 4, ground := Go.Ground.chain }], guard := none } : Oper)) (v := ?_) rfl (by kernel_rfl) (by kernel_rfl) (by kernel_rfl) (fun _ _ _ h => h) (Or.inl ⟨by rfl, ?_⟩) (by assumption) ?_
      rotate_left
      · (intro w hSw; (try dsimp only at hSw); go_simp; try with_reducible rfl)
      try simp only [Act.put, List.setIfInBounds_toArray, List.set_cons_zero, List.set_cons_succ]
      refine wpAnyH_take (i := 10) (oi := ({ dst := some 28, op := Go.Op.fieldAddr 37 (Go.Operand.tmp 3) 1, type := 0, pos := "tree.go:66", after := #[{ on := 9, ground := Go.Ground.guard }], guard := some (9, true) } : Oper)) (v := ?_) rfl (by kernel_rfl) (by kernel_rfl) (by kernel_rfl) (fun _ _ _ h => h) (Or.inl ⟨by rfl, ?_⟩) (by assumption) ?_
      rotate_left
      · (intro w hSw; (try dsimp only at hSw); go_simp; try with_reducible rfl)
      try simp only [Act.put, List.setIfInBounds_toArray, List.set_cons_zero, List.set_cons_succ]
      refine wpAnyH_take (i := 11) (oi := ({ dst := some 29, op := Go.Op.load 3 (Go.Operand.tmp 28), type := 3, pos := "tree.go:66", after := #[{ on := 10, ground := Go.Ground.data }, { on := 9, ground := Go.Ground.guard }], guard := some (9, true) } : Oper)) (v := ?_) rfl (by kernel_rfl) (by kernel_rfl) (by kernel_rfl) (fun _ _ _ h => h) (Or.inl ⟨by rfl, ?_⟩) (by assumption) ?_
      rotate_left
      · (intro w hSw; (try dsimp only at hSw); have q1 := hSw.2.2; go_simp; try with_reducible rfl)
      try simp only [Act.put, List.setIfInBounds_toArray, List.set_cons_zero, List.set_cons_succ]
      refine wpAnyH_take (i := 12) (oi := ({ dst := some 30, op := Go.Op.binOp Go.BinOp.leq 3 (Go.Operand.tmp 29) (Go.Operand.const (Go.Value.int Go.IntKind.i64 3)) 3, type := 4, pos := "tree.go:66", after := #[{ on := 11, ground := Go.Ground.data }, { on := 9, ground := Go.Ground.guard }], guard := some (9, true) } : Oper)) (v := ?_) rfl (by kernel_rfl) (by kernel_rfl) (by kernel_rfl) (fun _ _ _ h => h) (Or.inl ⟨by rfl, ?_⟩) (by assumption) ?_
      rotate_left
      · (intro w hSw; (try dsimp only at hSw); go_simp; try with_reducible rfl)
      try simp only [Act.put, List.setIfInBounds_toArray, List.set_cons_zero, List.set_cons_succ]
      refine wpAnyH_take (i := 13) (oi := ({ dst := some 31, op := Go.Op.pick (Go.Operand.tmp 27) (Go.Operand.tmp 30) (Go.Operand.const (Go.Value.bool false)), type := 4, pos := "tree.go:66", after := #[{ on := 9, ground := Go.Ground.data }, { on := 12, ground := Go.Ground.data }], guard := none } : Oper)) (v := ?_) rfl (by kernel_rfl) (by kernel_rfl) (by kernel_rfl) (fun _ _ _ h => h) (Or.inl ⟨by rfl, ?_⟩) (by assumption) ?_
      rotate_left
      · (intro w hSw; (try dsimp only at hSw); go_simp; try with_reducible rfl)
      try simp only [Act.put, List.setIfInBounds_toArray, List.set_cons_zero, List.set_cons_succ]
      refine wpAnyH_ready (rs := [14]) (by kernel_rfl) (by simp) ?_
      refine (AllReadyH.cons (o := ({ dst := some 32, op := Go.Op.call { callee := Go.Callee.value (Go.Operand.func 38), args := #[Go.Operand.tmp 18, Go.Operand.tmp 31], argTypes := #[69, 4] }, type := 0, pos := "tree.go:66", after := #[{ on := 0, ground := Go.Ground.data }, { on := 13, ground := Go.Ground.data }, { on := 9, ground := Go.Ground.chain }], guard := none } : Oper)) rfl (fun K hK => ?_) AllReadyH.nil)
      go_simp
      (refine (CA.out _ ke).mono ?_; rintro e w' ⟨rfl, kn⟩; have ke := ke.trans' kn)
      go_wp2_with fail
      refine hK.out _ _ ?_ (fun hHeld2 => ?_)
      · (try dsimp only); exact ⟨ke.cell c0 (by simp), ke.cell c1 (by simp), ke.cell c2 (by simp)⟩
      clear hK K
      try simp only [Act.put, List.setIfInBounds_toArray, List.set_cons_zero, List.set_cons_succ]
      refine wpAnyH_done (by kernel_rfl) ?_ _
      refine NoPanic.normal ?_
      skip
      have Bn := Bn.keep ke (by simp)
      have R1 := (R1.keep kc (by simp only [List.mem_singleton]; exact hPR)).keep ke (by simp)
      have hRf := hRc.keep ke (by simp)
      have kf := ((kW.mono (T := [P]) (by simp)).trans kc (by simp)).trans ke (by simp)
      clear hHeld0 hHeld1 hHeld2 hRc kc c0 c1 c2 Bc CV CA kn
      go_wp2_with (first
        | (refine wpList_load_mid rfl 37 (.tmp 3) rfl p 0 rfl x.cells _ (rangeAt_of_blk Bn) Tryd.underlying37 rfl (hi37 x) ?_)
        | (refine wpList_storeE rfl (.tmp 2) (.tmp 33) rfl R x _ rfl rfl R1 rfl ?_; intro w9 R9 k9)
        | fail)
      refine bodyPost_ret (results_cell_row rfl _ _ R 37 x.cells.toArray (0, 0) _ rfl R9 Tryd.underlying37 rfl (by simpa using hi37 x)) rfl ?_
      have hxx := HX.out.1
      rw [hxx]
      rw [hxx] at HOK
      exact EnQ.yes (by rw [HOK.out, decide_eq_true HC.out]; rfl) (hRf.keep k9 (fun b hb hb' => by simp only [List.mem_singleton] at hb'; subst hb'; exact hRS hb)) (kf.trans k9 (fun b hb => by simp only [List.mem_singleton] at hb; subst hb; exact Or.inr hwR))
end Go.Proofs.YtgeihjpifbkpkaaDoor

/- Ap Ay -/
import Derived.Test.YtpocegdlobnhaaaGC
section
/- What Apply makes (plain). -/
set_option linter.unusedVariables false
set_option linter.unusedSimpArgs false
set_option maxRecDepth 100000
namespace Go.Proofs.Ytpocegdlobnhaaa
open Go.RowKit
open Cod (RdAt RS)
def StepP.fine (len sz dl : Nat) : StepP → Prop
  | .cp f c => 1 ≤ c ∧ (f + c) * sz ≤ len
  | .lit ys => 0 < ys.length ∧ ys.length ≤ dl
theorem stepO_fine {d : List UInt8} {s s' : RS} {bl sz len : Nat} {x : StepP} (h : stepO d s bl = some (x, s')) (hb : bl * sz ≤ len) : x.fine len sz d.length := by
  unfold stepO at h
  split at h
  · split at h
    · rename_i h3
      simp only [Option.some.injEq, Prod.mk.injEq] at h
      obtain ⟨rfl, rfl⟩ := h
      obtain ⟨⟨g1, g2, g3⟩, -⟩ := h3
      exact ⟨g1, Nat.le_trans (Nat.mul_le_mul_right sz (by omega)) hb⟩
    · cases h
  · split at h
    · split at h
      · rename_i h3
        simp only [Option.some.injEq, Prod.mk.injEq] at h
        obtain ⟨rfl, rfl⟩ := h
        exact ⟨h3.1, text_max _ _ _⟩
      · cases h
    · cases h
theorem stepsO_fine {d : List UInt8} {bl sz tot len : Nat} {s0 s : RS} (hb : bl * sz ≤ len) : ∀ {k m : Nat} {l : List StepP}, stepsO d bl sz tot s0 k = some (l, m, s) → (∀ x ∈ l, x.fine len sz d.length) ∧ m = (l.map (·.len sz)).sum := by
  intro k
  induction k generalizing s with
  | zero => intro m l h; simp only [stepsO, Option.some.injEq, Prod.mk.injEq] at h; rw [← h.1, ← h.2.1]; exact ⟨by simp, rfl⟩
  | succ k ih =>
    intro m l h
    rw [stepsO] at h
    cases hm : stepsO d bl sz tot s0 k with
    | none => rw [hm] at h; cases h
    | some q =>
      obtain ⟨l', m', s'⟩ := q
      rw [hm] at h
      simp only at h
      split at h
      · cases h
      · rename_i hst
        split at h
        · simp only [Option.some.injEq, Prod.mk.injEq] at h
          obtain ⟨i1, i2⟩ := ih hm
          rw [← h.1, ← h.2.1]
          refine ⟨fun x hx => ?_, by simp [i2]⟩
          rcases List.mem_append.1 hx with h9 | h9
          · exact i1 x h9
          · obtain rfl : x = _ := by simpa using h9
            exact stepO_fine hst hb
        · cases h
structure Dl.Fine (x : Dl) : Prop where
  w : okW x.width = true
  z : 16 ≤ x.size ∧ x.size ≤ 4096
  ln : x.length ≤ 131072
  tot : x.total ≤ 131072
  n : x.steps.length ≤ 2048
  st : ∀ s ∈ x.steps, s.fine x.length x.size 131072
  sum : x.total = (x.steps.map (·.len x.size)).sum
theorem StepP.fine_mono {len sz a b : Nat} {x : StepP} (h : x.fine len sz a) (hab : a ≤ b) : x.fine len sz b := by
  cases x with
  | cp f c => exact h
  | lit ys => exact ⟨h.1, Nat.le_trans h.2 hab⟩
theorem dl_fine {D : List UInt8} {x : Dl} (h : dlO D = some x) : x.Fine := by
  unfold dlO at h
  split at h
  · rename_i hck
    have hd := (ckO_len hck).2.1
    unfold dlB at h
    split at h
    · split at h
      · rename_i h3
        simp only at h
        split at h
        · rename_i h5
          split at h
          · cases h
          · rename_i hst
            split at h
            · rename_i h7
              simp only [Option.some.injEq] at h
              simp only [Bool.and_eq_true, decide_eq_true_eq] at h3 h5 h7
              have hz := of_decide_eq_true h3.1.1.2
              have hf := stepsO_fine (len := (hdL (D.take (D.length - 4))).1) (Nat.div_mul_le_self _ _) hst
              have hl := (stepsO_len hst).1
              rw [← h]
              refine ⟨h3.1.1.1, by simp only; omega, h3.1.2, h5.1.1, by simp only; omega, fun s hs => StepP.fine_mono (hf.1 s hs) (by rw [List.length_take]; omega), ?_⟩
              simp only
              rw [← hf.2, h7.1.1]
            · cases h
        · cases h
      · cases h
    · cases h
  · cases h
/-- What an instruction makes of the base. -/
def piece (base : List UInt8) (sz : Nat) : StepP → List UInt8
  | .cp f c => (base.drop (f * sz)).take (c * sz)
  | .lit ys => ys
def outTo (base : List UInt8) (x : Dl) (i : Nat) : List UInt8 := (x.steps.take i).flatMap (piece base x.size)
theorem outTo_zero (base : List UInt8) (x : Dl) : outTo base x 0 = [] := by simp [outTo]
theorem outTo_succ {base : List UInt8} {x : Dl} {i : Nat} {s : StepP} (h : x.steps[i]? = some s) : outTo base x (i + 1) = outTo base x i ++ piece base x.size s := by
  rw [outTo, List.take_add_one, h]; simp [outTo]
theorem piece_len {base : List UInt8} {x : Dl} {s : StepP} (hf : s.fine x.length x.size 131072) (hb : base.length = x.length) : (piece base x.size s).length = s.len x.size := by
  cases s with
  | cp f c =>
    show ((base.drop (f * x.size)).take (c * x.size)).length = c * x.size
    rw [List.length_take, List.length_drop]
    have := hf.2
    rw [Nat.add_mul] at this
    omega
  | lit ys => rfl
theorem fine_len {x : Dl} {s : StepP} (hx : x.Fine) (hf : s.fine x.length x.size 131072) : s.len x.size ≤ 131072 := by
  cases s with
  | cp f c =>
    have := hf.2
    rw [Nat.add_mul] at this
    have := hx.ln
    show c * x.size ≤ 131072
    omega
  | lit ys => exact hf.2
theorem outTo_len {base : List UInt8} {x : Dl} (hx : x.Fine) (hb : base.length = x.length) : ∀ i, (outTo base x i).length ≤ 131072 * i := by
  intro i
  induction i with
  | zero => simp [outTo]
  | succ i ih =>
    cases h : x.steps[i]? with
    | none => rw [outTo, List.take_add_one, h]; simp only [Option.toList_none, List.append_nil]; exact Nat.le_trans ih (Nat.mul_le_mul_left _ (by omega))
    | some s =>
      rw [outTo_succ h, List.length_append, piece_len (hx.st s (List.mem_of_getElem? h)) hb]
      have := fine_len hx (hx.st s (List.mem_of_getElem? h))
      omega
def aplO (base D : List UInt8) : List UInt8 × Int :=
  if 131072 < base.length then ([], 2) else
    match dlO D with
    | none => ([], 180)
    | some x => if base.length = x.length ∧ Dig.shaId x.width base = x.base then (if Dig.shaId x.width (outTo base x x.steps.length) = x.target then (outTo base x x.steps.length, 0) else ([], 182)) else ([], 181)
theorem make0 (n : Nat) (h : n ≤ 140737488355328) (w : World) : (Instr.makeSlice 22 (.int .i64 0) (.int .i64 (n : Nat))).run Try.prog w = .ok (.slice (some ⟨w.heap.size, 0, none⟩) 0 n) (w.alloc (.cells (Array.replicate n (.int .u8 0)) 5)) := by
  obtain ⟨i, hi, hz, hs, hb⟩ := info_parts Cod.info5
  have hr := run_make (P := Try.prog) w 22 5 i (.int .u8 0) Try.underlying22 hi hz .i64 .i64 0 (n : Int) (by omega) (by omega) (by rw [hb]; omega) (by omega)
  have e : ((n : Int)).toNat = n := by omega
  rw [e, hs] at hr
  rw [hr]
  have e2 : madeCells (Value.int .u8 0).cells (n * 1) = Array.replicate n (Value.int .u8 0) := by
    rw [Nat.mul_one]
    unfold madeCells
    apply Array.ext
    · simp
    · intro j h1 h2; simp [Value.cells, Nat.mod_one]
  rw [e2]; rfl
theorem sl_make0 (w : World) (n : Nat) (h : n ≤ 140737488355328) : Sl (w.alloc (.cells (Array.replicate n (.int .u8 0)) 5)) 5 1 (.slice (some ⟨w.heap.size, 0, none⟩) 0 n) 0 [] :=
  ⟨rfl, Or.inr ⟨w.heap.size, n, [], List.replicate n (.int .u8 0), rfl, by simpa using Blk.new w (Array.replicate n (.int .u8 0)) 5, by omega, by simp, by simp only [maxLen]; omega⟩⟩
theorem as95 (f c : Int) : ∀ w, (Instr.typeAssert (.iface 95 (.agg #[.int .i64 f, .int .i64 c])) 93 95 true).run Try.prog w = .ok (.tuple #[.agg #[.int .i64 f, .int .i64 c], .bool true]) w := fun w => by kernel_rfl
theorem as97no (a : Option Addr) (n c : Nat) : ∀ w, (Instr.typeAssert (.iface 97 (.agg #[.slice a n c])) 93 95 true).run Try.prog w = .ok (.tuple #[.agg #[.int .i64 0, .int .i64 0], .bool false]) w := fun w => by kernel_rfl
theorem as97 (a : Option Addr) (n c : Nat) : ∀ w, (Instr.typeAssert (.iface 97 (.agg #[.slice a n c])) 93 97 true).run Try.prog w = .ok (.tuple #[.agg #[.slice a n c], .bool true]) w := fun w => by kernel_rfl
theorem giveD_no {w w' : World} {e : Ending} (h : GiveD w none e w') : Keep [] w w' ∧ ∃ cl : List Value, e = .returned (.tuple #[.agg cl.toArray, .bool false]) ∧ Hid (cl.toArray.size = 69) ∧ Hid (cl.toArray.all (·.oneCell') = true) := by
  obtain ⟨k, s, a, n, c, rfl⟩ := h
  exact ⟨k, _, rfl, Lib.hid (by simpa using s.len a n c), Lib.hid (all_oneCell_toArray (s.one a n c))⟩
theorem giveD_yes {w w' : World} {s : Dl} {e : Ending} (h : GiveD w (some s) e w') : Keep [] w w' ∧ ∃ (cl : List Value) (a : Option Addr) (n c : Nat) (vs : List Value), e = .returned (.tuple #[.agg cl.toArray, .bool true]) ∧ Hid (s.cells a n c = cl) ∧ Hid (cl.toArray.size = 69) ∧ Hid (cl.toArray.all (·.oneCell') = true) ∧ Hid (s.steps.length = n) ∧ Sl w' 93 1 (.slice a n c) n vs ∧ StL w' vs s.steps ∧ Fr w [] (blks (.slice a n c)) ∧ Hid (∀ v ∈ vs, Fr w [] (stb v)) := by
  obtain ⟨k, a, n, c, vs, rfl, h1, h2, h3, h4, h5⟩ := h
  exact ⟨k, _, a, n, c, vs, rfl, Lib.hid rfl, Lib.hid (by simpa using s.len a n c), Lib.hid (all_oneCell_toArray (s.one a n c)), Lib.hid h1, h2, h3, h4, Lib.hid h5⟩
end Go.Proofs.Ytpocegdlobnhaaa
end
section
/- Apply: the walk. -/
set_option linter.unusedVariables false
set_option linter.unusedSimpArgs false
set_option maxRecDepth 100000
namespace Go.Proofs.Ytpocegdlobnhaaa
open Go.RowKit
open Cod (RdAt RS)
theorem nilB {w w' : World} {code : Int} (k : Keep [] w w') : GiveB w [] code (.returned (.tuple #[.slice none 0 0, .int .i64 code])) w' :=
  ⟨none, 0, 0, rfl, rfl, Sl.nil _ _ _, by intro b hb; simp [blks, Value.ownBlock] at hb, k⟩
section
variable {ops : Array Oper} {o : Oper} {a : Act} {w : World} {K : Act → World → Prop} {Q : Exit → Act → World → Prop} {E : Prop}
theorem step_buildS_w (hw : Region.wanted o (yielded ops a.tmps) = true) (x : Operand) (ho : o.op = .buildSlice 124 1 #[(0, x)]) (ad : Option Addr) (n c : Nat) (hx : a.eval x = .slice ad n c)
    (h : ∀ q wN, w.heap.size ≤ q → Blk wN q #[.slice ad n c] 22 → Keep [] w wN → K (a.put o.dst (.slice (some ⟨q, 0, none⟩) 1 1)) wN) : if Region.wanted o (yielded ops a.tmps) = true then Oper.wp Try.prog o a w K Q else E := by
  rw [if_pos hw]
  exact wp_buildS 124 22 x ho ad n c hx (.slice none 0 0) 24 Try.underlying124 info22 rfl (h _ _ (Nat.le_refl _) (Blk.new _ _ _) ((Keep.refl [] w).alloc _))
end
set_option maxHeartbeats 8000000 in
theorem apply_any (a0 a : Option Addr) (n0 c0 n c : Nat) (base D : List UInt8) (w : World) (hx0 : InBytes w a0 n0 c0 base) (hx : InBytes w a n c D) :
    Calls Try.prog 26 #[.slice a0 n0 c0, .slice a n c] w (GiveB w (aplO base D).1 (aplO base D).2) := by
  have hl0 := hx0.hlen
  by_cases h1 : 131072 < n0
  · have d1 : decide ((131072 : Int) < n0) = true := decide_eq_true (by omega)
    have HR := Lib.hid (show aplO base D = ([], 2) by rw [aplO, if_pos (by omega)])
    clear hx0 hx hl0
    go_enter Try.func26, Try.ntmps26
    go_wp2_with fail
    go_returns
    rw [HR.out]
    exact nilB (Keep.refl _ _)
  have d1 : decide ((131072 : Int) < n0) = false := decide_eq_false (by omega)
  have HWH := whole_any a n c D w hx
  have HB0 := Lib.hid hx0
  have hR1 : aplO base D = match dlO D with
    | none => ([], 180)
    | some x => if base.length = x.length ∧ Dig.shaId x.width base = x.base then (if Dig.shaId x.width (outTo base x x.steps.length) = x.target then (outTo base x x.steps.length, 0) else ([], 182)) else ([], 181) := by rw [aplO, if_neg (by omega)] <;> rfl
  cases hd : dlO D with
  | none =>
    rw [hd] at HWH hR1
    have HR := Lib.hid hR1
    have HW := Lib.hid HWH
    clear hd HWH hx hx0 hR1 hl0
    go_enter Try.func26, Try.ntmps26
    go_wp2_with (first
      | (go_at_call 52; refine HW.out.mono ?_; rintro e w1 hg; obtain ⟨k1, cl, rfl, HCS, HCA⟩ := giveD_no hg; clear hg; have k1a := k1.alloc (.cells cl.toArray 89))
      | (refine Dig.wpList_store_last rfl 89 (.tmp 6) (.tmp 19) rfl _ _ cl.toArray rfl rfl rfl (by rw [HCS.out]; rfl) (by rw [HCS.out]; rfl) HCA.out ?_)
      | fail)
    go_returns
    rw [HR.out]
    exact nilB k1a
  | some x =>
  rw [hd] at HWH hR1
  simp only at hR1
  have hf := dl_fine hd
  have hfw : okW (x.width : Nat) = true := hf.w
  have hwd : 1 ≤ x.width ∧ x.width ≤ 32 := by have := of_decide_eq_true hfw; omega
  have HF := Lib.hid hf
  have HR := Lib.hid hR1
  have HW := Lib.hid HWH
  have hsz := hf.z
  have hln := hf.ln
  have htot := hf.tot
  have hns := hf.n
  have hxl := x.lb
  have hxt := x.lt
  clear hd HWH hx hx0 hR1 hf hfw
  have HL0 := Lib.hid hl0
  obtain ⟨wd, hwdE⟩ : ∃ v, x.width = v := ⟨_, rfl⟩
  obtain ⟨sz, hszE⟩ : ∃ v, x.size = v := ⟨_, rfl⟩
  obtain ⟨ln, hlnE⟩ : ∃ v, x.length = v := ⟨_, rfl⟩
  obtain ⟨tot, htotE⟩ : ∃ v, x.total = v := ⟨_, rfl⟩
  obtain ⟨xb, hxbE⟩ : ∃ v, x.base = v := ⟨_, rfl⟩
  obtain ⟨xt, hxtE⟩ : ∃ v, x.target = v := ⟨_, rfl⟩
  have HWD := Lib.hid hwdE
  have HTO := Lib.hid htotE
  have HXB := Lib.hid hxbE
  have HXT := Lib.hid hxtE
  rw [hwdE] at hwd
  rw [hszE] at hsz
  rw [hlnE] at hln
  rw [htotE] at htot
  rw [hxbE] at hxl
  rw [hxtE] at hxt
  have HSZ := Lib.hid hszE
  have HLN := Lib.hid hlnE
  rw [hwdE, hlnE, hxbE, hxtE] at HR
  clear hwdE hszE hlnE htotE hxbE hxtE hl0
  have HXI := Lib.hid (hi26 hxl)
  have HTI := Lib.hid (hi26 hxt)
  go_enter Try.func26, Try.ntmps26
  go_upto_region 6 with (first
    | (go_at_call 52; refine HW.out.mono ?_; rintro e w1 hg; obtain ⟨k1, cl, sa, sn, sc, vs, rfl, HCL, HCS, HCA, HSN, hsl, hvl, hfr, HFV⟩ := giveD_yes hg; clear hg)
    | (refine Dig.wpList_store_last rfl 89 (.tmp 6) (.tmp 19) rfl _ _ cl.toArray rfl rfl rfl (by rw [HCS.out]; rfl) (by rw [HCS.out]; rfl) HCA.out ?_)
    | fail)
  have B4 : Blk (w1.alloc (.cells cl.toArray 89)) w1.heap.size cl.toArray 89 := Blk.new _ _ _
  have k4 : Keep [] w1 (w1.alloc (.cells cl.toArray 89)) := (Keep.refl [] w1).alloc _
  obtain ⟨W, hW⟩ : ∃ W, w1.alloc (.cells cl.toArray 89) = W := ⟨_, rfl⟩
  obtain ⟨A, hA⟩ : ∃ p, w1.heap.size = p := ⟨_, rfl⟩
  rw [hW] at B4 k4 ⊢
  rw [hA] at B4 ⊢
  have hwA : w.heap.size ≤ A := by have := k1.size; omega
  have hsl4 := hsl.keep k4 (by simp)
  have hvl4 := hvl.keep k4 (by simp)
  have kW := k1.trans' k4
  have hb0 := HB0.out.keep kW (by simp)
  rw [← HCL.out] at B4
  have g0 : W.cell? ⟨A, 0, none⟩ = some (.int .i64 (wd : Nat)) := by rw [← HWD.out]; exact dl_width B4
  have g1 : W.cell? ⟨A, 1, none⟩ = some (.int .i64 (sz : Nat)) := by rw [← HSZ.out]; exact dl_size B4
  have g2 : W.cell? ⟨A, 2, none⟩ = some (.int .i64 (ln : Nat)) := by rw [← HLN.out]; exact dl_length B4
  have g3 : W.cell? ⟨A, 67, none⟩ = some (.int .i64 (tot : Nat)) := by rw [← HTO.out]; exact dl_total B4
  have g4 : W.cell? ⟨A, 68, none⟩ = some (.slice sa sn sc) := dl_steps B4
  have g5 : W.rangeAt A 3 (bs xb) := by rw [← HXB.out]; exact dl_base B4
  have g6 : W.rangeAt A 35 (bs xt) := by rw [← HXT.out]; exact dl_target B4
  clear hW hA hsl hvl k1 k4 HCS HCA HCL HB0 HW B4
  have HB := Lib.hid hb0
  have HSL := Lib.hid hsl4
  have HVL := Lib.hid hvl4
  clear hb0 hsl4 hvl4
  have hn131 : n0 ≤ 131072 := by omega
  by_cases h2 : n0 = ln
  case neg =>
    have d2 : ((n0 : Int) != ln) = true := by simp; omega
    have HN := Lib.hid (show aplO base D = ([], 181) by rw [HR.out, if_neg (fun h => h2 (by rw [← HL0.out]; exact h.1))])
    clear HR h2
    have ke : Keep [] W W.drew := (Keep.refl [] W).drew
    refine wp_region_noPanic ?_
    refine wp_region_held_drew (S := fun w' => w'.cell? ⟨A, 2, none⟩ = some (.int .i64 (ln : Nat)) ∧ w'.cell? ⟨A, 0, none⟩ = some (.int .i64 (wd : Nat)) ∧ w'.rangeAt A 3 (bs xb)) (by kernel_rfl) ?_ (fun hHeld0 => ?_)
    · (try dsimp only); exact ⟨ke.cell g2 (by simp), ke.cell g0 (by simp), rangeAt_keep g5 ke (by simp)⟩
    refine wpAnyH_take (i := 0) (oi := ({ dst := some 25, op := .move (.tmp 0), type := 22, pos := "apply.go:63", after := #[], guard := none } : Oper)) (v := ?_) rfl (by kernel_rfl) (by kernel_rfl) (by kernel_rfl) (fun _ _ _ h => h) (Or.inl ⟨by rfl, ?_⟩) (by assumption) ?_
    rotate_left
    · (intro w hSw; (try dsimp only at hSw); go_simp; try with_reducible rfl)
    try simp only [Act.put, List.setIfInBounds_toArray, List.set_cons_zero, List.set_cons_succ]
    refine wpAnyH_take (i := 1) (oi := ({ dst := some 26, op := .call { callee := .builtin .len, args := #[.tmp 25], argTypes := #[22] }, type := 3, pos := "apply.go:63", after := #[{ on := 0, ground := .data }], guard := none } : Oper)) (v := ?_) rfl (by kernel_rfl) (by kernel_rfl) (by kernel_rfl) (fun _ _ _ h => h) (Or.inl ⟨by rfl, ?_⟩) (by assumption) ?_
    rotate_left
    · (intro w hSw; (try dsimp only at hSw); go_simp; try with_reducible rfl)
    try simp only [Act.put, List.setIfInBounds_toArray, List.set_cons_zero, List.set_cons_succ]
    refine wpAnyH_take (i := 2) (oi := ({ dst := some 27, op := .fieldAddr 89 (.tmp 6) 2, type := 0, pos := "apply.go:63", after := #[], guard := none } : Oper)) (v := ?_) rfl (by kernel_rfl) (by kernel_rfl) (by kernel_rfl) (fun _ _ _ h => h) (Or.inl ⟨by rfl, ?_⟩) (by assumption) ?_
    rotate_left
    · (intro w hSw; (try dsimp only at hSw); go_simp; try with_reducible rfl)
    try simp only [Act.put, List.setIfInBounds_toArray, List.set_cons_zero, List.set_cons_succ]
    refine wpAnyH_take (i := 3) (oi := ({ dst := some 28, op := .load 3 (.tmp 27), type := 3, pos := "apply.go:63", after := #[{ on := 2, ground := .data }], guard := none } : Oper)) (v := ?_) rfl (by kernel_rfl) (by kernel_rfl) (by kernel_rfl) (fun _ _ _ h => h) (Or.inl ⟨by rfl, ?_⟩) (by assumption) ?_
    rotate_left
    · (intro w hSw; (try dsimp only at hSw); have q1 := hSw.1; go_simp; try with_reducible rfl)
    try simp only [Act.put, List.setIfInBounds_toArray, List.set_cons_zero, List.set_cons_succ]
    refine wpAnyH_take (i := 4) (oi := ({ dst := some 29, op := .binOp .neq 3 (.tmp 26) (.tmp 28) 3, type := 4, pos := "apply.go:63", after := #[{ on := 1, ground := .data }, { on := 3, ground := .data }], guard := none } : Oper)) (v := ?_) rfl (by kernel_rfl) (by kernel_rfl) (by kernel_rfl) (fun _ _ _ h => h) (Or.inl ⟨by rfl, ?_⟩) (by assumption) ?_
    rotate_left
    · (intro w hSw; (try dsimp only at hSw); go_simp; try with_reducible rfl)
    try simp only [Act.put, List.setIfInBounds_toArray, List.set_cons_zero, List.set_cons_succ]
    refine wpAnyH_take (i := 5) (oi := ({ dst := some 30, op := .move (.tmp 29), type := 4, pos := "apply.go:63", after := #[{ on := 4, ground := .data }], guard := none } : Oper)) (v := ?_) rfl (by kernel_rfl) (by kernel_rfl) (by kernel_rfl) (fun _ _ _ h => h) (Or.inl ⟨by rfl, ?_⟩) (by assumption) ?_
    rotate_left
    · (intro w hSw; (try dsimp only at hSw); go_simp; try with_reducible rfl)
    try simp only [Act.put, List.setIfInBounds_toArray, List.set_cons_zero, List.set_cons_succ]
    refine wpAnyH_take (i := 6) (oi := ({ dst := some 31, op := .fieldAddr 89 (.tmp 6) 0, type := 0, pos := "apply.go:63", after := #[{ on := 5, ground := .guard }], guard := some (5, false) } : Oper)) (v := undef) rfl (by kernel_rfl) (by kernel_rfl) (by kernel_rfl) (fun _ _ _ h => h) (Or.inr ⟨by rfl, rfl⟩) (by assumption) ?_
    try simp only [Act.put, List.setIfInBounds_toArray, List.set_cons_zero, List.set_cons_succ]
    refine wpAnyH_take (i := 7) (oi := ({ dst := some 32, op := .load 3 (.tmp 31), type := 3, pos := "apply.go:63", after := #[{ on := 6, ground := .data }, { on := 5, ground := .guard }], guard := some (5, false) } : Oper)) (v := undef) rfl (by kernel_rfl) (by kernel_rfl) (by kernel_rfl) (fun _ _ _ h => h) (Or.inr ⟨by rfl, rfl⟩) (by assumption) ?_
    try simp only [Act.put, List.setIfInBounds_toArray, List.set_cons_zero, List.set_cons_succ]
    refine wpAnyH_take (i := 8) (oi := ({ dst := some 33, op := .move (.tmp 0), type := 22, pos := "apply.go:63", after := #[{ on := 5, ground := .guard }], guard := some (5, false) } : Oper)) (v := undef) rfl (by kernel_rfl) (by kernel_rfl) (by kernel_rfl) (fun _ _ _ h => h) (Or.inr ⟨by rfl, rfl⟩) (by assumption) ?_
    try simp only [Act.put, List.setIfInBounds_toArray, List.set_cons_zero, List.set_cons_succ]
    refine wpAnyH_take (i := 9) (oi := ({ dst := some 34, op := .buildSlice 124 1 #[(0, .tmp 33)], type := 124, pos := "apply.go:63", after := #[{ on := 8, ground := .data }, { on := 5, ground := .guard }], guard := some (5, false) } : Oper)) (v := undef) rfl (by kernel_rfl) (by kernel_rfl) (by kernel_rfl) (fun _ _ _ h => h) (Or.inr ⟨by rfl, rfl⟩) (by assumption) ?_
    try simp only [Act.put, List.setIfInBounds_toArray, List.set_cons_zero, List.set_cons_succ]
    refine wpAnyH_take (i := 10) (oi := ({ dst := some 35, op := .call { callee := .value (.func 43), args := #[.tmp 32, .tmp 34], argTypes := #[3, 124] }, type := 26, pos := "apply.go:63", after := #[{ on := 7, ground := .data }, { on := 9, ground := .data }, { on := 5, ground := .chain }, { on := 5, ground := .guard }], guard := some (5, false) } : Oper)) (v := undef) rfl (by kernel_rfl) (by kernel_rfl) (by kernel_rfl) (fun _ _ _ h => h) (Or.inr ⟨by rfl, rfl⟩) (by assumption) ?_
    try simp only [Act.put, List.setIfInBounds_toArray, List.set_cons_zero, List.set_cons_succ]
    refine wpAnyH_take (i := 11) (oi := ({ dst := some 36, op := .fieldAddr 89 (.tmp 6) 3, type := 0, pos := "apply.go:63", after := #[{ on := 5, ground := .guard }], guard := some (5, false) } : Oper)) (v := undef) rfl (by kernel_rfl) (by kernel_rfl) (by kernel_rfl) (fun _ _ _ h => h) (Or.inr ⟨by rfl, rfl⟩) (by assumption) ?_
    try simp only [Act.put, List.setIfInBounds_toArray, List.set_cons_zero, List.set_cons_succ]
    refine wpAnyH_take (i := 12) (oi := ({ dst := some 37, op := .load 26 (.tmp 36), type := 26, pos := "apply.go:63", after := #[{ on := 11, ground := .data }, { on := 5, ground := .guard }], guard := some (5, false) } : Oper)) (v := undef) rfl (by kernel_rfl) (by kernel_rfl) (by kernel_rfl) (fun _ _ _ h => h) (Or.inr ⟨by rfl, rfl⟩) (by assumption) ?_
    try simp only [Act.put, List.setIfInBounds_toArray, List.set_cons_zero, List.set_cons_succ]
    refine wpAnyH_take (i := 13) (oi := ({ dst := some 38, op := .binOp .neq 26 (.tmp 35) (.tmp 37) 26, type := 4, pos := "apply.go:63", after := #[{ on := 10, ground := .data }, { on := 12, ground := .data }, { on := 5, ground := .guard }], guard := some (5, false) } : Oper)) (v := undef) rfl (by kernel_rfl) (by kernel_rfl) (by kernel_rfl) (fun _ _ _ h => h) (Or.inr ⟨by rfl, rfl⟩) (by assumption) ?_
    try simp only [Act.put, List.setIfInBounds_toArray, List.set_cons_zero, List.set_cons_succ]
    refine wpAnyH_take (i := 14) (oi := ({ dst := some 39, op := .pick (.tmp 30) (.const (.bool true)) (.tmp 38), type := 4, pos := "apply.go:63", after := #[{ on := 5, ground := .data }, { on := 13, ground := .data }], guard := none } : Oper)) (v := ?_) rfl (by kernel_rfl) (by kernel_rfl) (by kernel_rfl) (fun _ _ _ h => h) (Or.inl ⟨by rfl, ?_⟩) (by assumption) ?_
    rotate_left
    · (intro w hSw; (try dsimp only at hSw); go_simp; try with_reducible rfl)
    try simp only [Act.put, List.setIfInBounds_toArray, List.set_cons_zero, List.set_cons_succ]
    refine wpAnyH_take (i := 15) (oi := ({ dst := some 24, op := .assign (.tmp 39), type := 4, pos := "apply.go:63", after := #[{ on := 14, ground := .data }, { on := 10, ground := .chain }], guard := none } : Oper)) (v := ?_) rfl (by kernel_rfl) (by kernel_rfl) (by kernel_rfl) (fun _ _ _ h => h) (Or.inl ⟨by rfl, ?_⟩) (by assumption) ?_
    rotate_left
    · (intro w hSw; (try dsimp only at hSw); go_simp; try with_reducible rfl)
    try simp only [Act.put, List.setIfInBounds_toArray, List.set_cons_zero, List.set_cons_succ]
    refine wpAnyH_done (by kernel_rfl) ?_ _
    refine NoPanic.normal ?_
    skip
    go_wp2_with fail
    go_returns
    rw [HN.out]
    exact nilB (kW.trans' ke)
  have d2 : ((n0 : Int) != ln) = false := by simp; omega
  subst h2
  obtain ⟨sb, hsb⟩ : ∃ z, Dig.shaId (wd : Nat) base = z := ⟨_, rfl⟩
  have hsl : sb.length = 32 := by rw [← hsb]; exact Dig.shaId_length _ _
  have OF := Lib.hid (fun W' q k (Bq : Blk W' q #[.slice a0 n0 c0] 22) => by have := of_one (wd : Nat) Bq (HB.out.keep k (by simp)); rw [hsb] at this; exact this : ∀ W' q, Keep [] W W' → Blk W' q #[.slice a0 n0 c0] 22 → Calls Try.prog 43 #[.int .i64 (wd : Nat), .slice (some ⟨q, 0, none⟩) 1 1] W' fun e w' => e = .returned (.agg (bs sb).toArray) ∧ Keep [] W' w')
  rw [hsb] at HR
  have heq : ∀ w, (Op.equalIn 10000 26 (.agg (bs sb).toArray) (.agg (bs xb).toArray)).run Try.prog w = .ok (sb == xb) w := fun w => eql_id 9998 sb xb hsl hxl w
  obtain ⟨eb, hebE⟩ : ∃ b, (sb == xb) = b := ⟨_, rfl⟩
  rw [hebE] at heq
  have HEB := Lib.hid hebE
  clear hsb hebE
  have ke : Keep [] W W.drew := (Keep.refl [] W).drew
  refine wp_region_noPanic ?_
  refine wp_region_held_drew (S := fun w' => w'.cell? ⟨A, 2, none⟩ = some (.int .i64 (n0 : Nat)) ∧ w'.cell? ⟨A, 0, none⟩ = some (.int .i64 (wd : Nat)) ∧ w'.rangeAt A 3 (bs xb)) (by kernel_rfl) ?_ (fun hHeld0 => ?_)
  · (try dsimp only); exact ⟨ke.cell g2 (by simp), ke.cell g0 (by simp), rangeAt_keep g5 ke (by simp)⟩
  refine wpAnyH_take (i := 0) (oi := ({ dst := some 25, op := .move (.tmp 0), type := 22, pos := "apply.go:63", after := #[], guard := none } : Oper)) (v := ?_) rfl (by kernel_rfl) (by kernel_rfl) (by kernel_rfl) (fun _ _ _ h => h) (Or.inl ⟨by rfl, ?_⟩) (by assumption) ?_
  rotate_left
  · (intro w hSw; (try dsimp only at hSw); go_simp; try with_reducible rfl)
  try simp only [Act.put, List.setIfInBounds_toArray, List.set_cons_zero, List.set_cons_succ]
  refine wpAnyH_take (i := 1) (oi := ({ dst := some 26, op := .call { callee := .builtin .len, args := #[.tmp 25], argTypes := #[22] }, type := 3, pos := "apply.go:63", after := #[{ on := 0, ground := .data }], guard := none } : Oper)) (v := ?_) rfl (by kernel_rfl) (by kernel_rfl) (by kernel_rfl) (fun _ _ _ h => h) (Or.inl ⟨by rfl, ?_⟩) (by assumption) ?_
  rotate_left
  · (intro w hSw; (try dsimp only at hSw); go_simp; try with_reducible rfl)
  try simp only [Act.put, List.setIfInBounds_toArray, List.set_cons_zero, List.set_cons_succ]
  refine wpAnyH_take (i := 2) (oi := ({ dst := some 27, op := .fieldAddr 89 (.tmp 6) 2, type := 0, pos := "apply.go:63", after := #[], guard := none } : Oper)) (v := ?_) rfl (by kernel_rfl) (by kernel_rfl) (by kernel_rfl) (fun _ _ _ h => h) (Or.inl ⟨by rfl, ?_⟩) (by assumption) ?_
  rotate_left
  · (intro w hSw; (try dsimp only at hSw); go_simp; try with_reducible rfl)
  try simp only [Act.put, List.setIfInBounds_toArray, List.set_cons_zero, List.set_cons_succ]
  refine wpAnyH_take (i := 3) (oi := ({ dst := some 28, op := .load 3 (.tmp 27), type := 3, pos := "apply.go:63", after := #[{ on := 2, ground := .data }], guard := none } : Oper)) (v := ?_) rfl (by kernel_rfl) (by kernel_rfl) (by kernel_rfl) (fun _ _ _ h => h) (Or.inl ⟨by rfl, ?_⟩) (by assumption) ?_
  rotate_left
  · (intro w hSw; (try dsimp only at hSw); have q1 := hSw.1; go_simp; try with_reducible rfl)
  try simp only [Act.put, List.setIfInBounds_toArray, List.set_cons_zero, List.set_cons_succ]
  refine wpAnyH_take (i := 4) (oi := ({ dst := some 29, op := .binOp .neq 3 (.tmp 26) (.tmp 28) 3, type := 4, pos := "apply.go:63", after := #[{ on := 1, ground := .data }, { on := 3, ground := .data }], guard := none } : Oper)) (v := ?_) rfl (by kernel_rfl) (by kernel_rfl) (by kernel_rfl) (fun _ _ _ h => h) (Or.inl ⟨by rfl, ?_⟩) (by assumption) ?_
  rotate_left
  · (intro w hSw; (try dsimp only at hSw); go_simp; try with_reducible rfl)
  try simp only [Act.put, List.setIfInBounds_toArray, List.set_cons_zero, List.set_cons_succ]
  refine wpAnyH_take (i := 5) (oi := ({ dst := some 30, op := .move (.tmp 29), type := 4, pos := "apply.go:63", after := #[{ on := 4, ground := .data }], guard := none } : Oper)) (v := ?_) rfl (by kernel_rfl) (by kernel_rfl) (by kernel_rfl) (fun _ _ _ h => h) (Or.inl ⟨by rfl, ?_⟩) (by assumption) ?_
  rotate_left
  · (intro w hSw; (try dsimp only at hSw); go_simp; try with_reducible rfl)
  try simp only [Act.put, List.setIfInBounds_toArray, List.set_cons_zero, List.set_cons_succ]
  refine wpAnyH_take (i := 6) (oi := ({ dst := some 31, op := .fieldAddr 89 (.tmp 6) 0, type := 0, pos := "apply.go:63", after := #[{ on := 5, ground := .guard }], guard := some (5, false) } : Oper)) (v := ?_) rfl (by kernel_rfl) (by kernel_rfl) (by kernel_rfl) (fun _ _ _ h => h) (Or.inl ⟨by rfl, ?_⟩) (by assumption) ?_
  rotate_left
  · (intro w hSw; (try dsimp only at hSw); go_simp; try with_reducible rfl)
  try simp only [Act.put, List.setIfInBounds_toArray, List.set_cons_zero, List.set_cons_succ]
  refine wpAnyH_take (i := 7) (oi := ({ dst := some 32, op := .load 3 (.tmp 31), type := 3, pos := "apply.go:63", after := #[{ on := 6, ground := .data }, { on := 5, ground := .guard }], guard := some (5, false) } : Oper)) (v := ?_) rfl (by kernel_rfl) (by kernel_rfl) (by kernel_rfl) (fun _ _ _ h => h) (Or.inl ⟨by rfl, ?_⟩) (by assumption) ?_
  rotate_left
  · (intro w hSw; (try dsimp only at hSw); have q1 := hSw.2.1; go_simp; try with_reducible rfl)
  try simp only [Act.put, List.setIfInBounds_toArray, List.set_cons_zero, List.set_cons_succ]
  refine wpAnyH_take (i := 8) (oi := ({ dst := some 33, op := .move (.tmp 0), type := 22, pos := "apply.go:63", after := #[{ on := 5, ground := .guard }], guard := some (5, false) } : Oper)) (v := ?_) rfl (by kernel_rfl) (by kernel_rfl) (by kernel_rfl) (fun _ _ _ h => h) (Or.inl ⟨by rfl, ?_⟩) (by assumption) ?_
  rotate_left
  · (intro w hSw; (try dsimp only at hSw); go_simp; try with_reducible rfl)
  try simp only [Act.put, List.setIfInBounds_toArray, List.set_cons_zero, List.set_cons_succ]
  refine wpAnyH_take (i := 11) (oi := ({ dst := some 36, op := .fieldAddr 89 (.tmp 6) 3, type := 0, pos := "apply.go:63", after := #[{ on := 5, ground := .guard }], guard := some (5, false) } : Oper)) (v := ?_) rfl (by kernel_rfl) (by kernel_rfl) (by kernel_rfl) (fun _ _ _ h => h) (Or.inl ⟨by rfl, ?_⟩) (by assumption) ?_
  rotate_left
  · (intro w hSw; (try dsimp only at hSw); go_simp; try with_reducible rfl)
  try simp only [Act.put, List.setIfInBounds_toArray, List.set_cons_zero, List.set_cons_succ]
  refine wpAnyH_take (i := 12) (oi := ({ dst := some 37, op := .load 26 (.tmp 36), type := 26, pos := "apply.go:63", after := #[{ on := 11, ground := .data }, { on := 5, ground := .guard }], guard := some (5, false) } : Oper)) (v := .agg (List.toArray (bs xb))) rfl (by kernel_rfl) (by kernel_rfl) (by kernel_rfl) (fun _ _ _ h => h) (yieldsIf_load_mid (by rfl) _ _ rfl _ _ rfl (bs xb) _ (fun w hSw => hSw.2.2) Try.underlying26 rfl HXI.out) (by assumption) ?_
  try simp only [Act.put, List.setIfInBounds_toArray, List.set_cons_zero, List.set_cons_succ]
  refine wpAnyH_ready (rs := [9]) (by kernel_rfl) (by simp) ?_
  refine (AllReadyH.cons (o := ({ dst := some 34, op := .buildSlice 124 1 #[(0, .tmp 33)], type := 124, pos := "apply.go:63", after := #[{ on := 8, ground := .data }, { on := 5, ground := .guard }], guard := some (5, false) } : Oper)) rfl (fun K hK => ?_) AllReadyH.nil)
  (refine step_buildS_w (by rfl) (.tmp 33) rfl a0 n0 c0 rfl ?_; intro q wN hq Bq kn; have ke := ke.trans' kn)
  refine hK.out _ _ ?_ (fun hHeld1 => ?_)
  · (try dsimp only); exact ⟨ke.cell g2 (by simp), ke.cell g0 (by simp), rangeAt_keep g5 ke (by simp)⟩
  clear hK K
  try simp only [Act.put, List.setIfInBounds_toArray, List.set_cons_zero, List.set_cons_succ]
  refine wpAnyH_ready (rs := [10]) (by kernel_rfl) (by simp) ?_
  refine (AllReadyH.cons (o := ({ dst := some 35, op := .call { callee := .value (.func 43), args := #[.tmp 32, .tmp 34], argTypes := #[3, 124] }, type := 26, pos := "apply.go:63", after := #[{ on := 7, ground := .data }, { on := 9, ground := .data }, { on := 5, ground := .chain }, { on := 5, ground := .guard }], guard := some (5, false) } : Oper)) rfl (fun K hK => ?_) AllReadyH.nil)
  go_simp
  (refine (OF.out _ q ke Bq).mono ?_; rintro e w' ⟨rfl, kn⟩; have ke := ke.trans' kn)
  go_wp2_with fail
  refine hK.out _ _ ?_ (fun hHeld2 => ?_)
  · (try dsimp only); exact ⟨ke.cell g2 (by simp), ke.cell g0 (by simp), rangeAt_keep g5 ke (by simp)⟩
  clear hK K
  try simp only [Act.put, List.setIfInBounds_toArray, List.set_cons_zero, List.set_cons_succ]
  refine wpAnyH_take (i := 13) (oi := ({ dst := some 38, op := .binOp .neq 26 (.tmp 35) (.tmp 37) 26, type := 4, pos := "apply.go:63", after := #[{ on := 10, ground := .data }, { on := 12, ground := .data }, { on := 5, ground := .guard }], guard := some (5, false) } : Oper)) (v := ?_) rfl (by kernel_rfl) (by kernel_rfl) (by kernel_rfl) (fun _ _ _ h => h) (Or.inl ⟨by rfl, ?_⟩) (by assumption) ?_
  rotate_left
  · (intro w hSw; (try dsimp only at hSw); go_simp; try with_reducible rfl)
  try simp only [Act.put, List.setIfInBounds_toArray, List.set_cons_zero, List.set_cons_succ]
  refine wpAnyH_take (i := 14) (oi := ({ dst := some 39, op := .pick (.tmp 30) (.const (.bool true)) (.tmp 38), type := 4, pos := "apply.go:63", after := #[{ on := 5, ground := .data }, { on := 13, ground := .data }], guard := none } : Oper)) (v := ?_) rfl (by kernel_rfl) (by kernel_rfl) (by kernel_rfl) (fun _ _ _ h => h) (Or.inl ⟨by rfl, ?_⟩) (by assumption) ?_
  rotate_left
  · (intro w hSw; (try dsimp only at hSw); go_simp; try with_reducible rfl)
  try simp only [Act.put, List.setIfInBounds_toArray, List.set_cons_zero, List.set_cons_succ]
  refine wpAnyH_take (i := 15) (oi := ({ dst := some 24, op := .assign (.tmp 39), type := 4, pos := "apply.go:63", after := #[{ on := 14, ground := .data }, { on := 10, ground := .chain }], guard := none } : Oper)) (v := ?_) rfl (by kernel_rfl) (by kernel_rfl) (by kernel_rfl) (fun _ _ _ h => h) (Or.inl ⟨by rfl, ?_⟩) (by assumption) ?_
  rotate_left
  · (intro w hSw; (try dsimp only at hSw); go_simp; try with_reducible rfl)
  try simp only [Act.put, List.setIfInBounds_toArray, List.set_cons_zero, List.set_cons_succ]
  refine wpAnyH_done (by kernel_rfl) ?_ _
  refine NoPanic.normal ?_
  skip
  cases eb with
  | false =>
    have HN := Lib.hid (show aplO base D = ([], 181) by rw [HR.out, if_neg (fun h => by have h9 := HEB.out; rw [beq_eq_false_iff_ne] at h9; exact h9 h.2)])
    go_wp2_with fail
    go_returns
    rw [HN.out]
    exact nilB (kW.trans' ke)
  | true =>
  simp only [Bool.not_true]
  have hR2 := HR.out
  rw [if_pos ⟨HL0.out, by simpa using HEB.out⟩] at hR2
  have HR2 := Lib.hid hR2
  clear HR hR2 HEB heq OF
  have g0 := ke.cell g0 (by simp)
  have g1 := ke.cell g1 (by simp)
  have g3 := ke.cell g3 (by simp)
  have g4 := ke.cell g4 (by simp)
  have g6 := rangeAt_keep g6 ke (by simp)
  have kW := kW.trans' ke
  have HB := Lib.hid (HB.out.keep ke (by simp))
  have HSL := Lib.hid (HSL.out.keep ke (by simp))
  have HVL := Lib.hid (HVL.out.keep ke (by simp))
  have hmk := make0 tot (by omega)
  have K0 := Lib.hid g0
  have K1 := Lib.hid g1
  have K6 := Lib.hid g6
  go_upto_region 9 with fail
  clear hmk
  have S0 := sl_make0 w' tot (by omega)
  have k5 : Keep [] w' (w'.alloc (.cells (Array.replicate tot (.int .u8 0)) 5)) := (Keep.refl [] w').alloc _
  obtain ⟨W5, hW5⟩ : ∃ W, w'.alloc (.cells (Array.replicate tot (.int .u8 0)) 5) = W := ⟨_, rfl⟩
  obtain ⟨o5, ho5⟩ : ∃ p, w'.heap.size = p := ⟨_, rfl⟩
  rw [hW5, ho5] at S0
  rw [hW5] at k5
  rw [hW5, ho5]
  have hwo : w.heap.size ≤ o5 := by have := kW.size; omega
  have hpre : Fr w' [] (blks (.slice (some ⟨o5, 0, none⟩) 0 tot)) := fun b hb => by
    have e : b = o5 := by simpa [blks, Value.ownBlock] using hb
    right; rw [e, ← ho5]; exact Nat.le_refl _
  clear hW5 ho5
  have g0 := k5.cell g0 (by simp)
  have g1 := k5.cell g1 (by simp)
  have g4 := k5.cell g4 (by simp)
  have g6 := rangeAt_keep g6 k5 (by simp)
  have HAW := Lib.hid (show A < w'.heap.size from World.block_lt_of_cell? w' (a := ⟨A, 67, none⟩) g3)
  go_upto_region 10 with fail
  go_loopw [8, 46] (fun v8 v46 wr => ∃ (i mo co : Nat) (ao : Option Addr), i ≤ sn ∧ v46 = .int .i64 (i : Nat) ∧ v8 = .slice ao mo co ∧ Hid ((outTo base x i).length = mo) ∧ Sl wr 5 1 (.slice ao mo co) mo (bs (outTo base x i)) ∧ Fr w' [] (blks (.slice ao mo co)) ∧ Keep [] w' wr) (fun _ v46 _ => sn - (intOf v46).toNat)
  case atStart => exact ⟨0, 0, tot, some ⟨o5, 0, none⟩, by omega, rfl, rfl, Lib.hid (by rw [outTo_zero]; rfl), by rw [outTo_zero]; exact S0, hpre, k5⟩
  case round =>
    clear S0 hpre
    obtain ⟨i, mo, co, ao, hi, rfl, rfl, HMO, hs, hfo, kr⟩ := hrel
    have hmo : mo ≤ 131072 * i := by rw [← HMO.out]; exact outTo_len HF.out (by rw [HL0.out, HLN.out]) i
    have hsn2 := HSN.out
    by_cases hlt : i < sn
    · have i1 : (i : Int) < sn := by omega
      have i3 : (0 : Int) ≤ i := by omega
      obtain ⟨st, hst⟩ : ∃ st, x.steps[i]? = some st := ⟨_, List.getElem?_eq_getElem (by omega)⟩
      have HSU := Lib.hid (outTo_succ (base := base) hst)
      have hfi := HF.out.st st (List.mem_of_getElem? hst)
      have HPL := Lib.hid (piece_len hfi (by rw [HL0.out, HLN.out] : base.length = x.length))
      obtain ⟨v, hv, hvx⟩ := HVL.out.each i st hst
      have HOW : Hid (∀ b ∈ blks (.slice ao mo co), w'.heap.size ≤ b) := Lib.hid (fr_old hfo)
      have hrd := HSL.out.use.2.2.1
      obtain ⟨b9, o9, rfl, hc9⟩ : ∃ b off, sa = some ⟨b, off, none⟩ ∧ wr.cell? ⟨b, off + i, none⟩ = some v := by
        rcases hrd with e | ⟨b, off, e, hc⟩
        · rw [e] at hv; cases hv
        · exact ⟨b, off, e, kr.cell (hc i v hv) (by simp)⟩
      have hvx := hvx.keep kr (by simp)
      have k1 := kr.cell (a := ⟨A, 1, none⟩) (v := .int .i64 (sz : Nat)) (by first | exact K1.out) (by simp)
      clear hst hrd hv
      cases st with
      | cp f cn =>
        have hv0 : v = .iface 95 (.agg #[.int .i64 (f : Nat), .int .i64 (cn : Nat)]) := hvx
        subst hv0
        have hta := as95 (f : Nat) (cn : Nat)
        obtain ⟨hc1, hc2⟩ := hfi
        rw [HSZ.out, HLN.out] at hc2
        have hL : (piece base x.size (.cp f cn)).length = cn * sz := by rw [HPL.out, ← HSZ.out]; rfl
        have hc3 := hc2
        rw [Nat.add_mul] at hc3
        obtain ⟨L, hLE⟩ : ∃ L, cn * sz = L := ⟨_, rfl⟩
        obtain ⟨O, hOE⟩ : ∃ O, f * sz = O := ⟨_, rfl⟩
        rw [hLE, hOE] at hc3
        rw [hLE] at hL
        have e1 : (f : Int) * sz = O := by rw [← hOE]; push_cast; rfl
        have hfl : f ≤ O := by rw [← hOE]; exact Nat.le_mul_of_pos_right _ (by omega)
        have hcl : cn ≤ L := by rw [← hLE]; exact Nat.le_mul_of_pos_right _ (by omega)
        obtain ⟨T, hTE⟩ : ∃ T, f + cn = T := ⟨_, rfl⟩
        have e2 : (f : Int) + cn = T := by omega
        have e3 : (T : Int) * sz = O + L := by rw [← hTE, ← hOE, ← hLE]; push_cast; rw [Int.add_mul]
        have e4 : IntKind.i64.wrap (O : Int) = O := IntWalk.i64_in _ (by omega)
        have e5 : IntKind.i64.wrap (T : Int) = T := IntWalk.i64_in _ (by omega)
        have e6 : IntKind.i64.wrap ((O : Int) + L) = (O : Int) + L := IntWalk.i64_in _ (by omega)
        have hLp : 0 < L := by rw [← hLE]; exact Nat.mul_pos (by omega) (by omega)
        have hcle := HB.out.hle
        obtain ⟨bb, ob, rfl, hIn⟩ := in_part (HB.out.keep kr (by simp)) (o := O) (m := L) (by omega) hLp
        have hpc : piece base x.size (.cp f cn) = (base.drop O).take L := by rw [HSZ.out]; show (base.drop (f * sz)).take (cn * sz) = _; rw [hLE, hOE]
        rw [hpc] at HSU hL
        obtain ⟨ps, hps⟩ : ∃ ps, (base.drop O).take L = ps := ⟨_, rfl⟩
        rw [hps] at HSU hL hIn
        have j1 : (O : Int) + L ≤ c0 := by omega
        have j2 : (0 : Int) ≤ O := by omega
        have j3 : (O : Int) ≤ (O : Int) + L := by omega
        have j4 : ((O : Int) + L).toNat = O + L := by omega
        have j5 : O + L - O = L := by omega
        have j6 : ¬ c0 = O := by omega
        have j7 : (O : Int) + L ≤ n0 := by omega
        have j8 : (0 : Int) ≤ (O : Int) + L := by omega
        have HPS := Lib.hid hL
        have HIN := Lib.hid hIn
        have HBD := Lib.hid (show (mo + L) * 1 ≤ 140737488355328 ∧ mo + L ≤ maxLen by simp only [maxLen]; omega)
        clear hL hIn hLE hOE hTE hc2 hc3 hpc hps hvx hfl hcl
        go_upto_region 14 with fail
        have k9 : Keep [] wr (wr.alloc (.cells #[.int .i64 (f : Nat), .int .i64 (cn : Nat)] 95)) := (Keep.refl [] wr).alloc _
        have BX : Blk (wr.alloc (.cells #[.int .i64 (f : Nat), .int .i64 (cn : Nat)] 95)) wr.heap.size #[.int .i64 (f : Nat), .int .i64 (cn : Nat)] 95 := Blk.new _ _ _
        go_upto_region 15 with fail
        obtain ⟨w7, hw7⟩ : ∃ W, wr.alloc (.cells #[.int .i64 (f : Nat), .int .i64 (cn : Nat)] 95) = W := ⟨_, rfl⟩
        obtain ⟨p7, hp7⟩ : ∃ p, wr.heap.size = p := ⟨_, rfl⟩
        rw [hw7] at k9 BX ⊢
        rw [hp7] at BX ⊢
        clear hw7 hp7
        have x0 := BX.cell (i := 0) rfl
        have x1 := BX.cell (i := 1) rfl
        have x2 := k9.cell k1 (by simp)
        have hs9 := hs.keep k9 (by simp)
        have hr9 := HIN.out.rd.keep k9 (by simp)
        go_wp2_with (first
          | (at_builtin; go_must (refine wpList_appendN rfl (.tmp 54) (.tmp 69) 22 rfl 5 _ 1 1 Try.underlying22 Cod.info5 rfl (by omega) (.slice ao mo co) mo _ rfl hs9 (some ⟨bb, ob + O, none⟩) L (c0 - O) (bs ps) rfl (by rw [bs_length, HPS.out, Nat.mul_one]) (by simp) hr9 (bs_one _) HBD.out.2 HBD.out.1 ?_; intro a8 c8 w8 hs8 hk8 hf8))
          | fail)
        exact ⟨⟨i + 1, mo + L, c8, a8, by omega, by go_num, rfl, Lib.hid (by rw [HSU.out, List.length_append, HMO.out, HPS.out]), by rw [HSU.out, bs_append]; exact hs8, hfo.trans hf8 (kr.trans' k9).size, (kr.trans' k9).trans hk8 (fun b hb => Or.inr (HOW.out b hb))⟩, by simp [intOf]; omega⟩
      | lit us =>
        obtain ⟨va, vn, vc, hv0, hIn⟩ := hvx
        subst hv0
        have hta := as97no va vn vc
        have hta2 := as97 va vn vc
        have hvn : us.length = vn := hIn.hlen
        have hv131 : vn ≤ 131072 := by rw [← hvn]; exact hfi.2
        have hpc : piece base x.size (.lit us) = us := rfl
        rw [hpc] at HSU
        have HIN := Lib.hid hIn
        have HVN := Lib.hid hvn
        have HBD := Lib.hid (show (mo + vn) * 1 ≤ 140737488355328 ∧ mo + vn ≤ maxLen by simp only [maxLen]; omega)
        clear hIn hfi hpc hvn
        go_upto_region 17 with fail
        have k9 : Keep [] wr (wr.alloc (.cells #[.slice va vn vc] 97)) := (Keep.refl [] wr).alloc _
        have BX : Blk (wr.alloc (.cells #[.slice va vn vc] 97)) wr.heap.size #[.slice va vn vc] 97 := Blk.new _ _ _
        go_upto_region 18 with fail
        obtain ⟨w7, hw7⟩ : ∃ W, wr.alloc (.cells #[.slice va vn vc] 97) = W := ⟨_, rfl⟩
        obtain ⟨p7, hp7⟩ : ∃ p, wr.heap.size = p := ⟨_, rfl⟩
        rw [hw7] at k9 BX ⊢
        rw [hp7] at BX ⊢
        clear hw7 hp7
        have x0 := BX.cell (i := 0) rfl
        have hs9 := hs.keep k9 (by simp)
        have hr9 := HIN.out.keep k9 (by simp)
        go_wp2_with (first
          | (at_builtin; go_must (refine wpList_appendN rfl (.tmp 74) (.tmp 76) 22 rfl 5 _ 1 1 Try.underlying22 Cod.info5 rfl (by omega) (.slice ao mo co) mo _ rfl hs9 va vn vc (bs us) rfl (by rw [bs_length, HVN.out, Nat.mul_one]) hr9.hnil hr9.rd (bs_one _) HBD.out.2 HBD.out.1 ?_; intro a8 c8 w8 hs8 hk8 hf8))
          | fail)
        exact ⟨⟨i + 1, mo + vn, c8, a8, by omega, by go_num, rfl, Lib.hid (by rw [HSU.out, List.length_append, HMO.out, HVN.out]), by rw [HSU.out, bs_append]; exact hs8, hfo.trans hf8 (kr.trans' k9).size, (kr.trans' k9).trans hk8 (fun b hb => Or.inr (HOW.out b hb))⟩, by simp [intOf]; omega⟩
    · obtain rfl : i = sn := by omega
      have i2 : ¬ (i : Int) < i := by omega
      have HMO2 := HMO
      obtain ⟨os, hos⟩ : ∃ os, outTo base x i = os := ⟨_, rfl⟩
      have HR3 := Lib.hid (show aplO base D = if Dig.shaId (wd : Nat) os = xt then (os, 0) else ([], 182) by rw [HR2.out, HSN.out, hos])
      rw [hos] at hs HMO
      clear hos HMO2 HR2
      have hu := hs.use
      have HIB : Hid (InBytes wr ao mo co os) := Lib.hid ⟨HMO.out, hu.2.2.1, hu.2.2.2.1, hu.2.1, by have := hu.2.2.2.2; simp only [maxLen] at this; omega, by omega⟩
      obtain ⟨sh, hsh⟩ : ∃ z, Dig.shaId (wd : Nat) os = z := ⟨_, rfl⟩
      have hshl : sh.length = 32 := by rw [← hsh]; exact Dig.shaId_length _ _
      have OF := Lib.hid (fun W' q k (Bq : Blk W' q #[.slice ao mo co] 22) => by have := of_one (wd : Nat) Bq (HIB.out.keep k (by simp)); rw [hsh] at this; exact this : ∀ W' q, Keep [] wr W' → Blk W' q #[.slice ao mo co] 22 → Calls Try.prog 43 #[.int .i64 (wd : Nat), .slice (some ⟨q, 0, none⟩) 1 1] W' fun e w' => e = .returned (.agg (bs sh).toArray) ∧ Keep [] W' w')
      rw [hsh] at HR3
      have heq : ∀ w, (Op.equalIn 10000 26 (.agg (bs sh).toArray) (.agg (bs xt).toArray)).run Try.prog w = .ok (sh == xt) w := fun w => eql_id 9998 sh xt hshl hxt w
      obtain ⟨eb, hebE⟩ : ∃ b, (sh == xt) = b := ⟨_, rfl⟩
      rw [hebE] at heq
      have HEB := Lib.hid hebE
      have r0 := kr.cell (a := ⟨A, 0, none⟩) (v := .int .i64 (wd : Nat)) (by exact K0.out) (by simp)
      have r6 := rangeAt_keep (w := w') (b := A) (o := 35) (cs := bs xt) (by exact K6.out) kr (by simp)
      have hs0 := hs
      have HS0 := Lib.hid hs0
      clear hsh hebE hu hs0 hs
      have ke : Keep [] wr wr.drew := (Keep.refl [] wr).drew
      go_upto_region 20 with fail
      refine wp_region_noPanic ?_
      refine wp_region_held_drew (S := fun w' => w'.cell? ⟨A, 0, none⟩ = some (.int .i64 (wd : Nat)) ∧ w'.rangeAt A 35 (bs xt)) (by kernel_rfl) ?_ (fun hHeld0 => ?_)
      · (try dsimp only); exact ⟨ke.cell r0 (by simp), rangeAt_keep r6 ke (by simp)⟩
      refine wpAnyH_take (i := 0) (oi := ({ dst := some 79, op := .fieldAddr 89 (.tmp 6) 0, type := 0, pos := "apply.go:75", after := #[], guard := none } : Oper)) (v := ?_) rfl (by kernel_rfl) (by kernel_rfl) (by kernel_rfl) (fun _ _ _ h => h) (Or.inl ⟨by rfl, ?_⟩) (by assumption) ?_
      rotate_left
      · (intro w hSw; (try dsimp only at hSw); go_simp; try with_reducible rfl)
      try simp only [Act.put, List.setIfInBounds_toArray, List.set_cons_zero, List.set_cons_succ]
      refine wpAnyH_take (i := 1) (oi := ({ dst := some 80, op := .load 3 (.tmp 79), type := 3, pos := "apply.go:75", after := #[{ on := 0, ground := .data }], guard := none } : Oper)) (v := ?_) rfl (by kernel_rfl) (by kernel_rfl) (by kernel_rfl) (fun _ _ _ h => h) (Or.inl ⟨by rfl, ?_⟩) (by assumption) ?_
      rotate_left
      · (intro w hSw; (try dsimp only at hSw); have q1 := hSw.1; go_simp; try with_reducible rfl)
      try simp only [Act.put, List.setIfInBounds_toArray, List.set_cons_zero, List.set_cons_succ]
      refine wpAnyH_take (i := 2) (oi := ({ dst := some 81, op := .move (.tmp 8), type := 22, pos := "apply.go:75", after := #[], guard := none } : Oper)) (v := ?_) rfl (by kernel_rfl) (by kernel_rfl) (by kernel_rfl) (fun _ _ _ h => h) (Or.inl ⟨by rfl, ?_⟩) (by assumption) ?_
      rotate_left
      · (intro w hSw; (try dsimp only at hSw); go_simp; try with_reducible rfl)
      try simp only [Act.put, List.setIfInBounds_toArray, List.set_cons_zero, List.set_cons_succ]
      refine wpAnyH_take (i := 5) (oi := ({ dst := some 84, op := .fieldAddr 89 (.tmp 6) 4, type := 0, pos := "apply.go:75", after := #[], guard := none } : Oper)) (v := ?_) rfl (by kernel_rfl) (by kernel_rfl) (by kernel_rfl) (fun _ _ _ h => h) (Or.inl ⟨by rfl, ?_⟩) (by assumption) ?_
      rotate_left
      · (intro w hSw; (try dsimp only at hSw); go_simp; try with_reducible rfl)
      try simp only [Act.put, List.setIfInBounds_toArray, List.set_cons_zero, List.set_cons_succ]
      refine wpAnyH_take (i := 6) (oi := ({ dst := some 85, op := .load 26 (.tmp 84), type := 26, pos := "apply.go:75", after := #[{ on := 5, ground := .data }], guard := none } : Oper)) (v := .agg (List.toArray (bs xt))) rfl (by kernel_rfl) (by kernel_rfl) (by kernel_rfl) (fun _ _ _ h => h) (yieldsIf_load_mid (by rfl) _ _ rfl _ _ rfl (bs xt) _ (fun w hSw => hSw.2) Try.underlying26 rfl HTI.out) (by assumption) ?_
      try simp only [Act.put, List.setIfInBounds_toArray, List.set_cons_zero, List.set_cons_succ]
      refine wpAnyH_ready (rs := [3]) (by kernel_rfl) (by simp) ?_
      refine (AllReadyH.cons (o := ({ dst := some 82, op := .buildSlice 124 1 #[(0, .tmp 81)], type := 124, pos := "apply.go:75", after := #[{ on := 2, ground := .data }], guard := none } : Oper)) rfl (fun K hK => ?_) AllReadyH.nil)
      (refine step_buildS rfl (.tmp 81) rfl ao mo co rfl ?_; intro q wN hq Bq kn; have ke := ke.trans' kn)
      refine hK.out _ _ ?_ (fun hHeld1 => ?_)
      · (try dsimp only); exact ⟨ke.cell r0 (by simp), rangeAt_keep r6 ke (by simp)⟩
      clear hK K
      try simp only [Act.put, List.setIfInBounds_toArray, List.set_cons_zero, List.set_cons_succ]
      refine wpAnyH_ready (rs := [4]) (by kernel_rfl) (by simp) ?_
      refine (AllReadyH.cons (o := ({ dst := some 83, op := .call { callee := .value (.func 43), args := #[.tmp 80, .tmp 82], argTypes := #[3, 124] }, type := 26, pos := "apply.go:75", after := #[{ on := 1, ground := .data }, { on := 3, ground := .data }], guard := none } : Oper)) rfl (fun K hK => ?_) AllReadyH.nil)
      go_simp
      (refine (OF.out _ q ke Bq).mono ?_; rintro e w' ⟨rfl, kn⟩; have ke := ke.trans' kn)
      go_wp2_with fail
      refine hK.out _ _ ?_ (fun hHeld2 => ?_)
      · (try dsimp only); exact ⟨ke.cell r0 (by simp), rangeAt_keep r6 ke (by simp)⟩
      clear hK K
      try simp only [Act.put, List.setIfInBounds_toArray, List.set_cons_zero, List.set_cons_succ]
      refine wpAnyH_take (i := 7) (oi := ({ dst := some 86, op := .binOp .neq 26 (.tmp 83) (.tmp 85) 26, type := 4, pos := "apply.go:75", after := #[{ on := 4, ground := .data }, { on := 6, ground := .data }], guard := none } : Oper)) (v := ?_) rfl (by kernel_rfl) (by kernel_rfl) (by kernel_rfl) (fun _ _ _ h => h) (Or.inl ⟨by rfl, ?_⟩) (by assumption) ?_
      rotate_left
      · (intro w hSw; (try dsimp only at hSw); go_simp; try with_reducible rfl)
      try simp only [Act.put, List.setIfInBounds_toArray, List.set_cons_zero, List.set_cons_succ]
      refine wpAnyH_done (by kernel_rfl) ?_ _
      refine NoPanic.normal ?_
      skip
      cases eb with
      | false =>
        have HN := Lib.hid (show aplO base D = ([], 182) by rw [HR3.out, if_neg (fun h => by have h9 := HEB.out; rw [beq_eq_false_iff_ne] at h9; exact h9 h)])
        go_wp2_with fail
        go_returns
        rw [HN.out]
        exact nilB ((kW.trans' kr).trans' ke)
      | true =>
        have HN := Lib.hid (show aplO base D = (os, 0) by rw [HR3.out, if_pos (by simpa using HEB.out)])
        go_wp2_with fail
        go_returns
        rw [HN.out]
        exact ⟨ao, mo, co, rfl, HMO.out.symm, HS0.out.keep ke (by simp), fun b hb => Or.inr (Nat.le_trans kW.size (fr_old hfo b hb)), (kW.trans' kr).trans' ke⟩
end Go.Proofs.Ytpocegdlobnhaaa
end

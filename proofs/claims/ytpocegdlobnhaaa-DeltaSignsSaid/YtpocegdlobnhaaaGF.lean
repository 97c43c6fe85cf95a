/- Mk Fi Fr Nx Sq -/
import Derived.Test.YtpocegdlobnhaaaGE
import Derived.Test.YtpocegdlobnhaaaGD
import Derived.Test.YtpocegdlobnhaaaSn
section
/- A maker, in memory; what it finds (plain). -/
set_option linter.unusedVariables false
set_option linter.unusedSimpArgs false
set_option maxRecDepth 100000
namespace Go.Proofs.Ytpocegdlobnhaaa
open Go.RowKit
def mkCells (s : Sg) (a : Option Addr) (n c : Nat) (ta : Option Addr) (tn tc r : Nat) : List Value := s.cells a n c ++ [.slice ta tn tc, .map (some r)]
structure MkAt (w : World) (M : Nat) (s : Sg) (a : Option Addr) (n c : Nat) (ta : Option Addr) (tn tc : Nat) (d : List UInt8) (r : Nat) : Prop where
  blk : Blk w M (mkCells s a n c ta tn tc r).toArray 81
  ws : WsIn w a n c s.blocks
  tg : InBytes w ta tn tc d
  mp : MapOf w 0 r (groups s.blocks n)
section
variable {w w' : World} {M : Nat} {s : Sg} {a : Option Addr} {n c : Nat} {ta : Option Addr} {tn tc : Nat} {d : List UInt8} {r : Nat}
theorem MkAt.keep (h : MkAt w M s a n c ta tn tc d r) (k : Keep [] w w') : MkAt w' M s a n c ta tn tc d r :=
  ⟨h.blk.keep k (by simp), h.ws.keep k (by simp), h.tg.keep k (by simp), h.mp.keep k (by simp) (by simp)⟩
theorem mk_s (j : Nat) (hj : j < 36) : (mkCells s a n c ta tn tc r)[j]? = (s.cells a n c)[j]? := by
  rw [mkCells, List.getElem?_append_left (by rw [s.len]; exact hj)]
theorem mk_t : (mkCells s a n c ta tn tc r)[36]? = some (.slice ta tn tc) := by
  rw [mkCells, List.getElem?_append_right (by rw [s.len]; omega), s.len]; rfl
theorem mk_m : (mkCells s a n c ta tn tc r)[37]? = some (.map (some r)) := by
  rw [mkCells, List.getElem?_append_right (by rw [s.len]; omega), s.len]; rfl
theorem MkAt.c0 (h : MkAt w M s a n c ta tn tc d r) : w.cell? ⟨M, 0, none⟩ = some (.int .i64 s.width) := h.blk.cell (by rw [List.getElem?_toArray, mk_s 0 (by omega)]; rfl)
theorem MkAt.c1 (h : MkAt w M s a n c ta tn tc d r) : w.cell? ⟨M, 1, none⟩ = some (.int .i64 s.size) := h.blk.cell (by rw [List.getElem?_toArray, mk_s 1 (by omega)]; rfl)
theorem MkAt.c35 (h : MkAt w M s a n c ta tn tc d r) : w.cell? ⟨M, 35, none⟩ = some (.slice a n c) := h.blk.cell (by rw [List.getElem?_toArray, mk_s 35 (by omega)]; exact sg_last)
theorem MkAt.c36 (h : MkAt w M s a n c ta tn tc d r) : w.cell? ⟨M, 36, none⟩ = some (.slice ta tn tc) := h.blk.cell (by rw [List.getElem?_toArray]; exact mk_t)
theorem MkAt.c37 (h : MkAt w M s a n c ta tn tc d r) : w.cell? ⟨M, 37, none⟩ = some (.map (some r)) := h.blk.cell (by rw [List.getElem?_toArray]; exact mk_m)
end
/-- The window at a place. -/
def winF (d : List UInt8) (z k : Nat) : List UInt8 := (d.drop k).take z
/-- Does the window at a place fit a block? -/
def fitW (s : Sg) (d : List UInt8) (k b : Nat) : Bool := decide (k + s.size.toNat ≤ d.length) && (match s.blocks[b]? with | none => false | some x => (Rol.sumOf (winF d s.size.toNat k) == x.sum) && (Dig.shaId s.width (winF d s.size.toNat k) == x.id))
/-- The least block of a sum that has the window's id. -/
def firstO (s : Sg) (d : List UInt8) (k : Nat) (sum : Int) : Option Nat := (groups s.blocks s.blocks.length sum).find? fun i => decide ((s.blocks[i]?).map (·.id) = some (Dig.shaId s.width (winF d s.size.toNat k)))
def firstI (s : Sg) (d : List UInt8) (k : Nat) (sum : Int) : Int := match firstO s d k sum with | some i => (i : Nat) | none => -1
theorem step_allocW {ops : Array Oper} {o : Oper} {a : Act} {w : World} {K : Act → World → Prop} {Q : Exit → Act → World → Prop} {E : Prop} (hgd : o.guard = none) (ho : o.op = .alloc 45)
    (h : ∀ p wN (old : List Value), w.heap.size ≤ p → Hid (old.length = 33) → Blk wN p old.toArray 45 → Keep [] w wN → K (a.put o.dst (.pointer (some ⟨p, 0, none⟩))) wN) : if Region.wanted o (yielded ops a.tmps) = true then Oper.wp Try.prog o a w K Q else E := by
  have hw : Region.wanted o (yielded ops a.tmps) = true := by simp [Region.wanted, hgd]
  rw [if_pos hw]
  have hz : (zeroValue 45).run Try.prog w = .ok (.agg (Wk.mk 0 (List.replicate 32 0) (by simp)).cells.toArray) w := by kernel_rfl
  unfold Oper.wp execOp
  simp [ho, Instr.alloc, newVar, newRow, hz]
  exact h w.heap.size _ _ (Nat.le_refl _) (Lib.hid (Wk.len _)) (Blk.new _ _ _) ((Keep.refl [] w).alloc _)
theorem step_alloc26 {ops : Array Oper} {o : Oper} {a : Act} {w : World} {K : Act → World → Prop} {Q : Exit → Act → World → Prop} {E : Prop} (hgd : o.guard = none) (ho : o.op = .alloc 26)
    (h : ∀ p wN (old : List Value), w.heap.size ≤ p → Hid (old.length = 32) → Blk wN p old.toArray 26 → Keep [] w wN → K (a.put o.dst (.pointer (some ⟨p, 0, none⟩))) wN) : if Region.wanted o (yielded ops a.tmps) = true then Oper.wp Try.prog o a w K Q else E := by
  have hw : Region.wanted o (yielded ops a.tmps) = true := by simp [Region.wanted, hgd]
  rw [if_pos hw]
  have hz : (zeroValue 26).run Try.prog w = .ok (.agg (bs (List.replicate 32 0)).toArray) w := by kernel_rfl
  unfold Oper.wp execOp
  simp [ho, Instr.alloc, newVar, newRow, hz]
  exact h w.heap.size _ (bs (List.replicate 32 0)) (Nat.le_refl _) (Lib.hid (by rw [bs_length]; simp)) (by exact Blk.new w (bs (List.replicate 32 0)).toArray 26) (by exact (Keep.refl [] w).alloc (.cells (bs (List.replicate 32 0)).toArray 26))
end Go.Proofs.Ytpocegdlobnhaaa
end
section
/- fits: the walk. -/
set_option linter.unusedVariables false
set_option linter.unusedSimpArgs false
set_option maxRecDepth 100000
namespace Go.Proofs.Ytpocegdlobnhaaa
open Go.RowKit
section
variable {ops : Array Oper} {o : Oper} {a : Act} {w : World} {K : Act → World → Prop} {Q : Exit → Act → World → Prop} {E : Prop}
theorem step_buildS_wf (hw : Region.wanted o (yielded ops a.tmps) = true) (x : Operand) (ho : o.op = .buildSlice 124 1 #[(0, x)]) (ad : Option Addr) (n c : Nat) (hx : a.eval x = .slice ad n c)
    (h : ∀ q wN, w.heap.size ≤ q → Blk wN q #[.slice ad n c] 22 → Keep [] w wN → K (a.put o.dst (.slice (some ⟨q, 0, none⟩) 1 1)) wN) : if Region.wanted o (yielded ops a.tmps) = true then Oper.wp Try.prog o a w K Q else E := by
  rw [if_pos hw]
  exact wp_buildS 124 22 x ho ad n c hx (.slice none 0 0) 24 Try.underlying124 info22 rfl (h _ _ (Nat.le_refl _) (Blk.new _ _ _) ((Keep.refl [] w).alloc _))
end
set_option maxHeartbeats 8000000 in
theorem fits_any (M : Nat) (s : Sg) (a : Option Addr) (n c : Nat) (ta : Option Addr) (tn tc : Nat) (d : List UInt8) (r V Z k b : Nat) (w : World) (h : MkAt w M s a n c ta tn tc d r) (hV : s.width = V) (hZ : s.size = Z) (hV1 : 1 ≤ V ∧ V ≤ 32) (hZ1 : 16 ≤ Z ∧ Z ≤ 4096) (hk : k ≤ 1000000) (hb : b ≤ 1000000) (htn : tn ≤ 131072) :
    Calls Try.prog 78 #[.pointer (some ⟨M, 0, none⟩), .int .i64 (k : Nat), .int .i64 (b : Nat)] w fun e w' => e = .returned (.bool (fitW s d k b)) ∧ Keep [] w w' := by
  have hzN : s.size.toNat = Z := by rw [hZ]; simp
  have HFW : Hid (fitW s d k b = (decide (k + Z ≤ d.length) && (match s.blocks[b]? with | none => false | some x => (Rol.sumOf (winF d Z k) == x.sum) && (Dig.shaId V (winF d Z k) == x.id)))) := Lib.hid (by rw [fitW, hzN, hV] <;> rfl)
  have hl := h.tg.hlen
  have hbl := h.ws.hlen
  have hle := h.tg.hle
  have g0 := h.c0
  have g1 := h.c1
  have g35 := h.c35
  have g36 := h.c36
  rw [hV] at g0
  rw [hZ] at g1
  have HK := Lib.hid h
  have HL := Lib.hid hl
  have HBL := Lib.hid hbl
  have u0 : IntKind.i64.wrap ((k : Int) + Z) = (k : Int) + Z := IntWalk.i64_in _ (by omega)
  clear hV hZ hzN h hl hbl
  by_cases h1 : tn < k + Z
  · have d1 : decide ((tn : Int) < (k : Int) + Z) = true := decide_eq_true (by omega)
    have HN := Lib.hid (show fitW s d k b = false by rw [HFW.out, decide_eq_false (by rw [HL.out]; omega)]; rfl)
    clear h1
    go_enter Try.func78, Try.ntmps78
    go_upto_region 1 with fail
    go_quiet (fail)
    go_wp2_with fail
    go_returns
    exact ⟨by rw [HN.out]; rfl, (Keep.refl [] w).drewN⟩
  have d1 : decide ((tn : Int) < (k : Int) + Z) = false := decide_eq_false (by omega)
  by_cases h2 : n ≤ b
  · have d2 : decide ((n : Int) ≤ b) = true := decide_eq_true (by omega)
    have d2' : decide (n ≤ b) = true := decide_eq_true h2
    have HN := Lib.hid (show fitW s d k b = false by rw [HFW.out, List.getElem?_eq_none (by rw [HBL.out]; omega), Bool.and_false])
    go_enter Try.func78, Try.ntmps78
    go_upto_region 1 with fail
    go_quiet (fail)
    go_wp2_with fail
    go_returns
    exact ⟨by rw [HN.out]; rfl, (Keep.refl [] w).drewN⟩
  have d2 : decide ((n : Int) ≤ b) = false := decide_eq_false (by omega)
  have d2' : decide (n ≤ b) = false := decide_eq_false h2
  obtain ⟨x, gb, off, ex, rfl, rx⟩ := HK.out.ws.at (i := b) (by omega)
  obtain ⟨tb, tof, rfl, hIn⟩ := in_part HK.out.tg (o := k) (m := Z) (by omega) (by omega)
  have HF2 : Hid (fitW s d k b = ((Rol.sumOf (winF d Z k) == x.sum) && (Dig.shaId V (winF d Z k) == x.id))) := Lib.hid (by rw [HFW.out, decide_eq_true (by rw [HL.out]; omega), ex]; rfl)
  obtain ⟨ws, hws⟩ : ∃ ws, winF d Z k = ws := ⟨_, rfl⟩
  have hIn2 : InBytes w (some ⟨tb, tof + k, none⟩) Z (tc - k) ws := by rw [← hws]; exact hIn
  rw [hws] at HF2
  obtain ⟨sm, hsm⟩ : ∃ z, Rol.sumOf ws = z := ⟨_, rfl⟩
  obtain ⟨sb, hsb⟩ : ∃ z, Dig.shaId V ws = z := ⟨_, rfl⟩
  have hsl : sb.length = 32 := by rw [← hsb]; exact Dig.shaId_length _ _
  have HIN := Lib.hid hIn2
  have SUM := Lib.hid (fun W' k' => by have h := HIN.out.keep k' (by simp); have := sumF_n _ _ (tc - k) ws W' h.hlen (by omega) h.rd; rw [hsm] at this; exact this : ∀ W', Keep [] w W' → Calls Try.prog 44 #[.slice (some ⟨tb, tof + k, none⟩) Z (tc - k)] W' fun e w' => e = .returned (.int .i64 sm) ∧ Keep [] W' w')
  have OF := Lib.hid (fun W' q k' (Bq : Blk W' q #[.slice (some ⟨tb, tof + k, none⟩) Z (tc - k)] 22) => by have := of_one (V : Nat) Bq (HIN.out.keep k' (by simp)); rw [hsb] at this; exact this : ∀ W' q, Keep [] w W' → Blk W' q #[.slice (some ⟨tb, tof + k, none⟩) Z (tc - k)] 22 → Calls Try.prog 43 #[.int .i64 (V : Nat), .slice (some ⟨q, 0, none⟩) 1 1] W' fun e w' => e = .returned (.agg (bs sb).toArray) ∧ Keep [] W' w')
  rw [hsm, hsb] at HF2
  have hxl := x.li
  have heq : ∀ w, (Op.equalIn 10000 26 (.agg (bs sb).toArray) (.agg (bs x.id).toArray)).run Try.prog w = .ok (sb == x.id) w := fun w => eql_id 9998 sb x.id hsl x.li w
  obtain ⟨eb, hebE⟩ : ∃ b, (sb == x.id) = b := ⟨_, rfl⟩
  rw [hebE] at heq HF2
  have HXI := Lib.hid (hi26 x.li)
  have HX1 := Lib.hid (x.one)
  have HXL := Lib.hid x.len
  have HXC := Lib.hid (hi45 x)
  have j1 : (k : Int) + Z ≤ tc := by omega
  have j2 : (0 : Int) ≤ k := by omega
  have j3 : (k : Int) ≤ (k : Int) + Z := by omega
  have j4 : ((k : Int) + Z).toNat = k + Z := by omega
  have j5 : k + Z - k = Z := by omega
  have j6 : ¬ tc = k := by omega
  have j7 : (k : Int) + Z ≤ tn := by omega
  have j8 : (0 : Int) ≤ (k : Int) + Z := by omega
  have i4 : (b : Int) < n := by omega
  have i3 : (0 : Int) ≤ b := by omega
  obtain ⟨N, hN, hso⟩ := size45
  have HN := Lib.hid hN
  rw [hN] at rx
  have rxc := rx
  obtain ⟨xc, hxc⟩ : ∃ xc, x.cells = xc := ⟨_, rfl⟩
  have HXX := Lib.hid hxc
  rw [hxc] at rx rxc HX1 HXL HXC
  clear hws hsm hsb hsl hebE ex hIn hIn2 hxl hN hxc
  go_enter Try.func78, Try.ntmps78
  go_upto_region 1 with fail
  go_quiet (fail)
  go_upto_region 3 with fail
  have ke : Keep [] w (w.drewN nq) := (Keep.refl [] w).drewN
  generalize w.drewN nq = wq at ke ⊢
  have ke := ke.drew
  refine wp_region_noPanic ?_
  refine wp_region_held_drew (S := fun w' => w'.cell? ⟨M, 1, none⟩ = some (.int .i64 (Z : Nat)) ∧ w'.cell? ⟨M, 35, none⟩ = some (.slice (some ⟨gb, off, none⟩) n c) ∧ w'.cell? ⟨M, 36, none⟩ = some (.slice (some ⟨tb, tof, none⟩) tn tc) ∧ w'.rangeAt gb (off + b * N) xc) (by kernel_rfl) ?_ (fun hHeld0 => ?_)
  · (try dsimp only); exact ⟨ke.cell g1 (by simp), ke.cell g35 (by simp), ke.cell g36 (by simp), rangeAt_keep rx ke (by simp)⟩
  refine wpAnyH_take (i := 0) (oi := ({ dst := some 32, op := .move (.tmp 0), type := 78, pos := "make.go:35", after := #[], guard := none } : Oper)) (v := ?_) rfl (by kernel_rfl) (by kernel_rfl) (by kernel_rfl) (fun _ _ _ h => h) (Or.inl ⟨by rfl, ?_⟩) (by assumption) ?_
  rotate_left
  · (intro w hSw; (try dsimp only at hSw); go_simp; try with_reducible rfl)
  try simp only [Act.put, List.setIfInBounds_toArray, List.set_cons_zero, List.set_cons_succ]
  refine wpAnyH_take (i := 1) (oi := ({ dst := some 33, op := .nilCheck (.tmp 32), type := 0, pos := "make.go:35", after := #[{ on := 0, ground := .data }], guard := none } : Oper)) (v := ?_) rfl (by kernel_rfl) (by kernel_rfl) (by kernel_rfl) (fun _ _ _ h => h) (Or.inl ⟨by rfl, ?_⟩) (by assumption) ?_
  rotate_left
  · (intro w hSw; (try dsimp only at hSw); go_simp; try with_reducible rfl)
  try simp only [Act.put, List.setIfInBounds_toArray, List.set_cons_zero, List.set_cons_succ]
  refine wpAnyH_take (i := 2) (oi := ({ dst := some 34, op := .fieldAddr 81 (.tmp 33) 1, type := 0, pos := "make.go:35", after := #[{ on := 1, ground := .data }], guard := none } : Oper)) (v := ?_) rfl (by kernel_rfl) (by kernel_rfl) (by kernel_rfl) (fun _ _ _ h => h) (Or.inl ⟨by rfl, ?_⟩) (by assumption) ?_
  rotate_left
  · (intro w hSw; (try dsimp only at hSw); go_simp; try with_reducible rfl)
  try simp only [Act.put, List.setIfInBounds_toArray, List.set_cons_zero, List.set_cons_succ]
  refine wpAnyH_take (i := 3) (oi := ({ dst := some 35, op := .load 22 (.tmp 34), type := 22, pos := "make.go:35", after := #[{ on := 2, ground := .data }], guard := none } : Oper)) (v := ?_) rfl (by kernel_rfl) (by kernel_rfl) (by kernel_rfl) (fun _ _ _ h => h) (Or.inl ⟨by rfl, ?_⟩) (by assumption) ?_
  rotate_left
  · (intro w hSw; (try dsimp only at hSw); have q1 := hSw.2.2.1; go_simp; try with_reducible rfl)
  try simp only [Act.put, List.setIfInBounds_toArray, List.set_cons_zero, List.set_cons_succ]
  refine wpAnyH_take (i := 4) (oi := ({ dst := some 36, op := .move (.tmp 1), type := 3, pos := "make.go:35", after := #[], guard := none } : Oper)) (v := ?_) rfl (by kernel_rfl) (by kernel_rfl) (by kernel_rfl) (fun _ _ _ h => h) (Or.inl ⟨by rfl, ?_⟩) (by assumption) ?_
  rotate_left
  · (intro w hSw; (try dsimp only at hSw); go_simp; try with_reducible rfl)
  try simp only [Act.put, List.setIfInBounds_toArray, List.set_cons_zero, List.set_cons_succ]
  refine wpAnyH_take (i := 5) (oi := ({ dst := some 37, op := .move (.tmp 1), type := 3, pos := "make.go:35", after := #[], guard := none } : Oper)) (v := ?_) rfl (by kernel_rfl) (by kernel_rfl) (by kernel_rfl) (fun _ _ _ h => h) (Or.inl ⟨by rfl, ?_⟩) (by assumption) ?_
  rotate_left
  · (intro w hSw; (try dsimp only at hSw); go_simp; try with_reducible rfl)
  try simp only [Act.put, List.setIfInBounds_toArray, List.set_cons_zero, List.set_cons_succ]
  refine wpAnyH_take (i := 6) (oi := ({ dst := some 38, op := .move (.tmp 0), type := 78, pos := "make.go:35", after := #[], guard := none } : Oper)) (v := ?_) rfl (by kernel_rfl) (by kernel_rfl) (by kernel_rfl) (fun _ _ _ h => h) (Or.inl ⟨by rfl, ?_⟩) (by assumption) ?_
  rotate_left
  · (intro w hSw; (try dsimp only at hSw); go_simp; try with_reducible rfl)
  try simp only [Act.put, List.setIfInBounds_toArray, List.set_cons_zero, List.set_cons_succ]
  refine wpAnyH_take (i := 7) (oi := ({ dst := some 39, op := .nilCheck (.tmp 38), type := 0, pos := "make.go:35", after := #[{ on := 6, ground := .data }], guard := none } : Oper)) (v := ?_) rfl (by kernel_rfl) (by kernel_rfl) (by kernel_rfl) (fun _ _ _ h => h) (Or.inl ⟨by rfl, ?_⟩) (by assumption) ?_
  rotate_left
  · (intro w hSw; (try dsimp only at hSw); go_simp; try with_reducible rfl)
  try simp only [Act.put, List.setIfInBounds_toArray, List.set_cons_zero, List.set_cons_succ]
  refine wpAnyH_take (i := 8) (oi := ({ dst := some 40, op := .fieldAddr 81 (.tmp 39) 0, type := 0, pos := "make.go:35", after := #[{ on := 7, ground := .data }], guard := none } : Oper)) (v := ?_) rfl (by kernel_rfl) (by kernel_rfl) (by kernel_rfl) (fun _ _ _ h => h) (Or.inl ⟨by rfl, ?_⟩) (by assumption) ?_
  rotate_left
  · (intro w hSw; (try dsimp only at hSw); go_simp; try with_reducible rfl)
  try simp only [Act.put, List.setIfInBounds_toArray, List.set_cons_zero, List.set_cons_succ]
  refine wpAnyH_take (i := 9) (oi := ({ dst := some 41, op := .fieldAddr 29 (.tmp 40) 1, type := 0, pos := "make.go:35", after := #[{ on := 8, ground := .data }], guard := none } : Oper)) (v := ?_) rfl (by kernel_rfl) (by kernel_rfl) (by kernel_rfl) (fun _ _ _ h => h) (Or.inl ⟨by rfl, ?_⟩) (by assumption) ?_
  rotate_left
  · (intro w hSw; (try dsimp only at hSw); go_simp; try with_reducible rfl)
  try simp only [Act.put, List.setIfInBounds_toArray, List.set_cons_zero, List.set_cons_succ]
  refine wpAnyH_take (i := 10) (oi := ({ dst := some 42, op := .load 3 (.tmp 41), type := 3, pos := "make.go:35", after := #[{ on := 9, ground := .data }], guard := none } : Oper)) (v := ?_) rfl (by kernel_rfl) (by kernel_rfl) (by kernel_rfl) (fun _ _ _ h => h) (Or.inl ⟨by rfl, ?_⟩) (by assumption) ?_
  rotate_left
  · (intro w hSw; (try dsimp only at hSw); have q1 := hSw.1; go_simp; try with_reducible rfl)
  try simp only [Act.put, List.setIfInBounds_toArray, List.set_cons_zero, List.set_cons_succ]
  refine wpAnyH_take (i := 11) (oi := ({ dst := some 43, op := .binOp .add 3 (.tmp 37) (.tmp 42) 3, type := 3, pos := "make.go:35", after := #[{ on := 5, ground := .data }, { on := 10, ground := .data }], guard := none } : Oper)) (v := ?_) rfl (by kernel_rfl) (by kernel_rfl) (by kernel_rfl) (fun _ _ _ h => h) (Or.inl ⟨by rfl, ?_⟩) (by assumption) ?_
  rotate_left
  · (intro w hSw; (try dsimp only at hSw); go_simp; try with_reducible rfl)
  try simp only [Act.put, List.setIfInBounds_toArray, List.set_cons_zero, List.set_cons_succ]
  refine wpAnyH_take (i := 12) (oi := ({ dst := some 44, op := .slice 22 (.tmp 35) (some (.tmp 36)) (some (.tmp 43)) none, type := 22, pos := "make.go:35", after := #[{ on := 3, ground := .data }, { on := 4, ground := .data }, { on := 11, ground := .data }], guard := none } : Oper)) (v := ?_) rfl (by kernel_rfl) (by kernel_rfl) (by kernel_rfl) (fun _ _ _ h => h) (Or.inl ⟨by rfl, ?_⟩) (by assumption) ?_
  rotate_left
  · (intro w hSw; (try dsimp only at hSw); go_simp; try with_reducible rfl)
  try simp only [Act.put, List.setIfInBounds_toArray, List.set_cons_zero, List.set_cons_succ]
  refine wpAnyH_take (i := 13) (oi := ({ dst := some 45, op := .move (.tmp 0), type := 78, pos := "make.go:35", after := #[{ on := 22, ground := .gcOnly .lateStores }], guard := none } : Oper)) (v := ?_) rfl (by kernel_rfl) (by kernel_rfl) (by kernel_rfl) (fun _ _ _ h => h) (Or.inl ⟨by rfl, ?_⟩) (by assumption) ?_
  rotate_left
  · (intro w hSw; (try dsimp only at hSw); go_simp; try with_reducible rfl)
  try simp only [Act.put, List.setIfInBounds_toArray, List.set_cons_zero, List.set_cons_succ]
  refine wpAnyH_take (i := 14) (oi := ({ dst := some 46, op := .nilCheck (.tmp 45), type := 0, pos := "make.go:35", after := #[{ on := 13, ground := .data }, { on := 22, ground := .gcOnly .lateStores }], guard := none } : Oper)) (v := ?_) rfl (by kernel_rfl) (by kernel_rfl) (by kernel_rfl) (fun _ _ _ h => h) (Or.inl ⟨by rfl, ?_⟩) (by assumption) ?_
  rotate_left
  · (intro w hSw; (try dsimp only at hSw); go_simp; try with_reducible rfl)
  try simp only [Act.put, List.setIfInBounds_toArray, List.set_cons_zero, List.set_cons_succ]
  refine wpAnyH_take (i := 15) (oi := ({ dst := some 47, op := .fieldAddr 81 (.tmp 46) 0, type := 0, pos := "make.go:35", after := #[{ on := 14, ground := .data }, { on := 22, ground := .gcOnly .lateStores }], guard := none } : Oper)) (v := ?_) rfl (by kernel_rfl) (by kernel_rfl) (by kernel_rfl) (fun _ _ _ h => h) (Or.inl ⟨by rfl, ?_⟩) (by assumption) ?_
  rotate_left
  · (intro w hSw; (try dsimp only at hSw); go_simp; try with_reducible rfl)
  try simp only [Act.put, List.setIfInBounds_toArray, List.set_cons_zero, List.set_cons_succ]
  refine wpAnyH_take (i := 16) (oi := ({ dst := some 48, op := .fieldAddr 29 (.tmp 47) 4, type := 0, pos := "make.go:35", after := #[{ on := 15, ground := .data }, { on := 22, ground := .gcOnly .lateStores }], guard := none } : Oper)) (v := ?_) rfl (by kernel_rfl) (by kernel_rfl) (by kernel_rfl) (fun _ _ _ h => h) (Or.inl ⟨by rfl, ?_⟩) (by assumption) ?_
  rotate_left
  · (intro w hSw; (try dsimp only at hSw); go_simp; try with_reducible rfl)
  try simp only [Act.put, List.setIfInBounds_toArray, List.set_cons_zero, List.set_cons_succ]
  refine wpAnyH_take (i := 17) (oi := ({ dst := some 49, op := .load 27 (.tmp 48), type := 27, pos := "make.go:35", after := #[{ on := 16, ground := .data }, { on := 22, ground := .gcOnly .lateStores }], guard := none } : Oper)) (v := ?_) rfl (by kernel_rfl) (by kernel_rfl) (by kernel_rfl) (fun _ _ _ h => h) (Or.inl ⟨by rfl, ?_⟩) (by assumption) ?_
  rotate_left
  · (intro w hSw; (try dsimp only at hSw); have q1 := hSw.2.1; go_simp; try with_reducible rfl)
  try simp only [Act.put, List.setIfInBounds_toArray, List.set_cons_zero, List.set_cons_succ]
  refine wpAnyH_take (i := 18) (oi := ({ dst := some 50, op := .move (.tmp 2), type := 3, pos := "make.go:35", after := #[{ on := 22, ground := .gcOnly .lateStores }], guard := none } : Oper)) (v := ?_) rfl (by kernel_rfl) (by kernel_rfl) (by kernel_rfl) (fun _ _ _ h => h) (Or.inl ⟨by rfl, ?_⟩) (by assumption) ?_
  rotate_left
  · (intro w hSw; (try dsimp only at hSw); go_simp; try with_reducible rfl)
  try simp only [Act.put, List.setIfInBounds_toArray, List.set_cons_zero, List.set_cons_succ]
  refine wpAnyH_take (i := 19) (oi := ({ dst := some 51, op := .indexAddr 27 (.tmp 49) (.tmp 50), type := 0, pos := "make.go:35", after := #[{ on := 17, ground := .data }, { on := 18, ground := .data }, { on := 22, ground := .gcOnly .lateStores }], guard := none } : Oper)) (v := ?_) rfl (by kernel_rfl) (by kernel_rfl) (by kernel_rfl) (fun _ _ _ h => h) (Or.inl ⟨by rfl, ?_⟩) (by assumption) ?_
  rotate_left
  · (intro w hSw; (try dsimp only at hSw); go_simp; try with_reducible rfl)
  try simp only [Act.put, List.setIfInBounds_toArray, List.set_cons_zero, List.set_cons_succ]
  refine wpAnyH_take (i := 20) (oi := ({ dst := some 52, op := .load 45 (.tmp 51), type := 45, pos := "make.go:35", after := #[{ on := 19, ground := .data }, { on := 22, ground := .gcOnly .lateStores }], guard := none } : Oper)) (v := .agg (List.toArray xc)) rfl (by kernel_rfl) (by kernel_rfl) (by kernel_rfl) (fun _ _ _ h => h) (yieldsIf_load_mid (by rfl) _ _ rfl _ _ rfl xc _ (fun w hSw => hSw.2.2.2) Try.underlying45 rfl HXC.out) (by assumption) ?_
  try simp only [Act.put, List.setIfInBounds_toArray, List.set_cons_zero, List.set_cons_succ]
  refine wpAnyH_ready (rs := [21]) (by kernel_rfl) (by simp) ?_
  refine (AllReadyH.cons (o := ({ dst := some 8, op := .alloc 45, type := 0, pos := "make.go:35", after := #[], guard := none } : Oper)) rfl (fun K hK => ?_) AllReadyH.nil)
  (refine step_allocW rfl rfl ?_; intro px wN oldx hpx HOX BX kn; have keX := ke.size; have ke := ke.trans' kn)
  refine hK.out _ _ ?_ (fun hHeld1 => ?_)
  · (try dsimp only); exact ⟨ke.cell g1 (by simp), ke.cell g35 (by simp), ke.cell g36 (by simp), rangeAt_keep rx ke (by simp)⟩
  clear hK K
  try simp only [Act.put, List.setIfInBounds_toArray, List.set_cons_zero, List.set_cons_succ]
  refine wpAnyH_take (i := 22) (oi := ({ dst := some 7, op := .assign (.tmp 44), type := 22, pos := "make.go:35", after := #[{ on := 12, ground := .data }, { on := 0, ground := .phase }, { on := 1, ground := .phase }, { on := 2, ground := .phase }, { on := 3, ground := .phase }, { on := 4, ground := .phase }, { on := 5, ground := .phase }, { on := 6, ground := .phase }, { on := 7, ground := .phase }, { on := 8, ground := .phase }, { on := 9, ground := .phase }, { on := 10, ground := .phase }, { on := 11, ground := .phase }, { on := 12, ground := .phase }, { on := 13, ground := .textOnly .lateStores }, { on := 14, ground := .textOnly .lateStores }, { on := 15, ground := .textOnly .lateStores }, { on := 16, ground := .textOnly .lateStores }, { on := 17, ground := .textOnly .lateStores }, { on := 18, ground := .textOnly .lateStores }, { on := 19, ground := .textOnly .lateStores }, { on := 20, ground := .textOnly .lateStores }, { on := 21, ground := .phase }], guard := none } : Oper)) (v := ?_) rfl (by kernel_rfl) (by kernel_rfl) (by kernel_rfl) (fun _ _ _ h => h) (Or.inl ⟨by rfl, ?_⟩) (by assumption) ?_
  rotate_left
  · (intro w hSw; (try dsimp only at hSw); go_simp; try with_reducible rfl)
  try simp only [Act.put, List.setIfInBounds_toArray, List.set_cons_zero, List.set_cons_succ]
  refine wpAnyH_ready (rs := [23]) (by kernel_rfl) (by simp) ?_
  refine (AllReadyH.cons (o := ({ dst := none, op := .store 45 (.tmp 8) (.tmp 52), type := 0, pos := "make.go:35", after := #[{ on := 21, ground := .data }, { on := 20, ground := .data }, { on := 22, ground := .chain }, { on := 0, ground := .phase }, { on := 1, ground := .phase }, { on := 2, ground := .phase }, { on := 3, ground := .phase }, { on := 4, ground := .phase }, { on := 5, ground := .phase }, { on := 6, ground := .phase }, { on := 7, ground := .phase }, { on := 8, ground := .phase }, { on := 9, ground := .phase }, { on := 10, ground := .phase }, { on := 11, ground := .phase }, { on := 12, ground := .phase }, { on := 13, ground := .phase }, { on := 14, ground := .phase }, { on := 15, ground := .phase }, { on := 16, ground := .phase }, { on := 17, ground := .phase }, { on := 18, ground := .phase }, { on := 19, ground := .phase }, { on := 20, ground := .phase }, { on := 21, ground := .phase }, { on := 22, ground := .phase }], guard := none } : Oper)) rfl (fun K hK => ?_) AllReadyH.nil)
  (refine step_storeAll rfl 45 (.tmp 8) (.tmp 52) rfl px 45 xc oldx rfl rfl BX (by rw [HOX.out, HXL.out]) HX1.out HXC.out ?_; intro wN BX kN; have hwpx : w.heap.size ≤ px := Nat.le_trans keX hpx; have ke : Keep [] w wN := ke.trans kN (fun b hb => by simp only [List.mem_singleton] at hb; subst hb; exact Or.inr hwpx))
  refine hK.out _ _ ?_ (fun hHeld2 => ?_)
  · (try dsimp only); exact ⟨ke.cell g1 (by simp), ke.cell g35 (by simp), ke.cell g36 (by simp), rangeAt_keep rx ke (by simp)⟩
  clear hK K
  try simp only [Act.put, List.setIfInBounds_toArray, List.set_cons_zero, List.set_cons_succ]
  refine wpAnyH_done (by kernel_rfl) ?_ _
  refine NoPanic.normal ?_
  skip
  have rX := rangeAt_of_blk BX
  rw [← HXX.out] at rX
  have x0 := rangeAt_sum rX
  have x1 := rangeAt_wid rX
  obtain ⟨xs, hxsE⟩ : ∃ z, x.sum = z := ⟨_, rfl⟩
  obtain ⟨xi, hxiE⟩ : ∃ z, x.id = z := ⟨_, rfl⟩
  rw [hxsE] at x0 HF2
  rw [hxiE] at x1 heq HXI
  clear hxsE hxiE rX rx rxc hHeld0 hHeld1 hHeld2 kN kn
  have kg : Keep [] wN wN.drew := (Keep.refl [] wN).drew
  go_upto_region 4 with fail
  by_cases h3 : sm = xs
  case neg =>
    have d3 : (sm == xs) = false := by simpa using h3
    have HN := Lib.hid (show fitW s d k b = false by rw [HF2.out, d3]; rfl)
    refine wp_region_noPanic ?_
    refine wp_region_held_drew (S := fun w' => w'.cell? ⟨px, 0, none⟩ = some (.int .i64 xs) ∧ w'.cell? ⟨M, 0, none⟩ = some (.int .i64 (V : Nat)) ∧ w'.rangeAt px 1 (bs xi)) (by kernel_rfl) ?_ (fun hHeld0 => ?_)
    · (try dsimp only); exact ⟨kg.cell x0 (by simp), kg.cell (ke.cell g0 (by simp)) (by simp), by rw [show (1 : Nat) = 0 + 1 from rfl]; exact rangeAt_keep x1 kg (by simp)⟩
    refine wpAnyH_take (i := 0) (oi := ({ dst := some 53, op := .move (.tmp 7), type := 22, pos := "make.go:36", after := #[], guard := none } : Oper)) (v := ?_) rfl (by kernel_rfl) (by kernel_rfl) (by kernel_rfl) (fun _ _ _ h => h) (Or.inl ⟨by rfl, ?_⟩) (by assumption) ?_
    rotate_left
    · (intro w hSw; (try dsimp only at hSw); go_simp; try with_reducible rfl)
    try simp only [Act.put, List.setIfInBounds_toArray, List.set_cons_zero, List.set_cons_succ]
    refine wpAnyH_take (i := 2) (oi := ({ dst := some 55, op := .fieldAddr 45 (.tmp 8) 0, type := 0, pos := "make.go:36", after := #[], guard := none } : Oper)) (v := ?_) rfl (by kernel_rfl) (by kernel_rfl) (by kernel_rfl) (fun _ _ _ h => h) (Or.inl ⟨by rfl, ?_⟩) (by assumption) ?_
    rotate_left
    · (intro w hSw; (try dsimp only at hSw); go_simp; try with_reducible rfl)
    try simp only [Act.put, List.setIfInBounds_toArray, List.set_cons_zero, List.set_cons_succ]
    refine wpAnyH_take (i := 3) (oi := ({ dst := some 56, op := .load 3 (.tmp 55), type := 3, pos := "make.go:36", after := #[{ on := 2, ground := .data }], guard := none } : Oper)) (v := ?_) rfl (by kernel_rfl) (by kernel_rfl) (by kernel_rfl) (fun _ _ _ h => h) (Or.inl ⟨by rfl, ?_⟩) (by assumption) ?_
    rotate_left
    · (intro w hSw; (try dsimp only at hSw); have q1 := hSw.1; go_simp; try with_reducible rfl)
    try simp only [Act.put, List.setIfInBounds_toArray, List.set_cons_zero, List.set_cons_succ]
    refine wpAnyH_ready (rs := [1]) (by kernel_rfl) (by simp) ?_
    refine (AllReadyH.cons (o := ({ dst := some 54, op := .call { callee := .value (.func 44), args := #[.tmp 53], argTypes := #[22] }, type := 3, pos := "make.go:36", after := #[{ on := 0, ground := .data }], guard := none } : Oper)) rfl (fun K hK => ?_) AllReadyH.nil)
    go_simp
    (refine (SUM.out _ (ke.trans' kg)).mono ?_; rintro e w' ⟨rfl, kn⟩; have kg := kg.trans' kn)
    go_wp2_with fail
    refine hK.out _ _ ?_ (fun hHeld1 => ?_)
    · (try dsimp only); exact ⟨kg.cell x0 (by simp), kg.cell (ke.cell g0 (by simp)) (by simp), by rw [show (1 : Nat) = 0 + 1 from rfl]; exact rangeAt_keep x1 kg (by simp)⟩
    clear hK K
    try simp only [Act.put, List.setIfInBounds_toArray, List.set_cons_zero, List.set_cons_succ]
    refine wpAnyH_take (i := 4) (oi := ({ dst := some 57, op := .binOp .eql 3 (.tmp 54) (.tmp 56) 3, type := 4, pos := "make.go:36", after := #[{ on := 1, ground := .data }, { on := 3, ground := .data }], guard := none } : Oper)) (v := ?_) rfl (by kernel_rfl) (by kernel_rfl) (by kernel_rfl) (fun _ _ _ h => h) (Or.inl ⟨by rfl, ?_⟩) (by assumption) ?_
    rotate_left
    · (intro w hSw; (try dsimp only at hSw); go_simp; try with_reducible rfl)
    try simp only [Act.put, List.setIfInBounds_toArray, List.set_cons_zero, List.set_cons_succ]
    refine wpAnyH_take (i := 5) (oi := ({ dst := some 58, op := .move (.tmp 57), type := 4, pos := "make.go:36", after := #[{ on := 4, ground := .data }, { on := 1, ground := .chain }], guard := none } : Oper)) (v := ?_) rfl (by kernel_rfl) (by kernel_rfl) (by kernel_rfl) (fun _ _ _ h => h) (Or.inl ⟨by rfl, ?_⟩) (by assumption) ?_
    rotate_left
    · (intro w hSw; (try dsimp only at hSw); go_simp; try with_reducible rfl)
    try simp only [Act.put, List.setIfInBounds_toArray, List.set_cons_zero, List.set_cons_succ]
    refine wpAnyH_take (i := 6) (oi := ({ dst := some 59, op := .move (.tmp 0), type := 78, pos := "make.go:36", after := #[{ on := 5, ground := .guard }], guard := some (5, true) } : Oper)) (v := undef) rfl (by kernel_rfl) (by kernel_rfl) (by kernel_rfl) (fun _ _ _ h => h) (Or.inr ⟨by rfl, rfl⟩) (by assumption) ?_
    try simp only [Act.put, List.setIfInBounds_toArray, List.set_cons_zero, List.set_cons_succ]
    refine wpAnyH_take (i := 7) (oi := ({ dst := some 60, op := .nilCheck (.tmp 59), type := 0, pos := "make.go:36", after := #[{ on := 6, ground := .data }, { on := 5, ground := .guard }], guard := some (5, true) } : Oper)) (v := undef) rfl (by kernel_rfl) (by kernel_rfl) (by kernel_rfl) (fun _ _ _ h => h) (Or.inr ⟨by rfl, rfl⟩) (by assumption) ?_
    try simp only [Act.put, List.setIfInBounds_toArray, List.set_cons_zero, List.set_cons_succ]
    refine wpAnyH_take (i := 8) (oi := ({ dst := some 61, op := .fieldAddr 81 (.tmp 60) 0, type := 0, pos := "make.go:36", after := #[{ on := 7, ground := .data }, { on := 5, ground := .guard }], guard := some (5, true) } : Oper)) (v := undef) rfl (by kernel_rfl) (by kernel_rfl) (by kernel_rfl) (fun _ _ _ h => h) (Or.inr ⟨by rfl, rfl⟩) (by assumption) ?_
    try simp only [Act.put, List.setIfInBounds_toArray, List.set_cons_zero, List.set_cons_succ]
    refine wpAnyH_take (i := 9) (oi := ({ dst := some 62, op := .fieldAddr 29 (.tmp 61) 0, type := 0, pos := "make.go:36", after := #[{ on := 8, ground := .data }, { on := 5, ground := .guard }], guard := some (5, true) } : Oper)) (v := undef) rfl (by kernel_rfl) (by kernel_rfl) (by kernel_rfl) (fun _ _ _ h => h) (Or.inr ⟨by rfl, rfl⟩) (by assumption) ?_
    try simp only [Act.put, List.setIfInBounds_toArray, List.set_cons_zero, List.set_cons_succ]
    refine wpAnyH_take (i := 10) (oi := ({ dst := some 63, op := .load 3 (.tmp 62), type := 3, pos := "make.go:36", after := #[{ on := 9, ground := .data }, { on := 5, ground := .guard }], guard := some (5, true) } : Oper)) (v := undef) rfl (by kernel_rfl) (by kernel_rfl) (by kernel_rfl) (fun _ _ _ h => h) (Or.inr ⟨by rfl, rfl⟩) (by assumption) ?_
    try simp only [Act.put, List.setIfInBounds_toArray, List.set_cons_zero, List.set_cons_succ]
    refine wpAnyH_take (i := 11) (oi := ({ dst := some 64, op := .move (.tmp 7), type := 22, pos := "make.go:36", after := #[{ on := 5, ground := .guard }], guard := some (5, true) } : Oper)) (v := undef) rfl (by kernel_rfl) (by kernel_rfl) (by kernel_rfl) (fun _ _ _ h => h) (Or.inr ⟨by rfl, rfl⟩) (by assumption) ?_
    try simp only [Act.put, List.setIfInBounds_toArray, List.set_cons_zero, List.set_cons_succ]
    refine wpAnyH_take (i := 12) (oi := ({ dst := some 65, op := .buildSlice 124 1 #[(0, .tmp 64)], type := 124, pos := "make.go:36", after := #[{ on := 11, ground := .data }, { on := 5, ground := .guard }], guard := some (5, true) } : Oper)) (v := undef) rfl (by kernel_rfl) (by kernel_rfl) (by kernel_rfl) (fun _ _ _ h => h) (Or.inr ⟨by rfl, rfl⟩) (by assumption) ?_
    try simp only [Act.put, List.setIfInBounds_toArray, List.set_cons_zero, List.set_cons_succ]
    refine wpAnyH_take (i := 13) (oi := ({ dst := some 66, op := .call { callee := .value (.func 43), args := #[.tmp 63, .tmp 65], argTypes := #[3, 124] }, type := 26, pos := "make.go:36", after := #[{ on := 10, ground := .data }, { on := 12, ground := .data }, { on := 5, ground := .chain }, { on := 5, ground := .guard }], guard := some (5, true) } : Oper)) (v := undef) rfl (by kernel_rfl) (by kernel_rfl) (by kernel_rfl) (fun _ _ _ h => h) (Or.inr ⟨by rfl, rfl⟩) (by assumption) ?_
    try simp only [Act.put, List.setIfInBounds_toArray, List.set_cons_zero, List.set_cons_succ]
    refine wpAnyH_take (i := 14) (oi := ({ dst := some 67, op := .fieldAddr 45 (.tmp 8) 1, type := 0, pos := "make.go:36", after := #[{ on := 5, ground := .guard }], guard := some (5, true) } : Oper)) (v := undef) rfl (by kernel_rfl) (by kernel_rfl) (by kernel_rfl) (fun _ _ _ h => h) (Or.inr ⟨by rfl, rfl⟩) (by assumption) ?_
    try simp only [Act.put, List.setIfInBounds_toArray, List.set_cons_zero, List.set_cons_succ]
    refine wpAnyH_take (i := 15) (oi := ({ dst := some 68, op := .load 26 (.tmp 67), type := 26, pos := "make.go:36", after := #[{ on := 14, ground := .data }, { on := 5, ground := .guard }], guard := some (5, true) } : Oper)) (v := undef) rfl (by kernel_rfl) (by kernel_rfl) (by kernel_rfl) (fun _ _ _ h => h) (Or.inr ⟨by rfl, rfl⟩) (by assumption) ?_
    try simp only [Act.put, List.setIfInBounds_toArray, List.set_cons_zero, List.set_cons_succ]
    refine wpAnyH_take (i := 16) (oi := ({ dst := some 69, op := .binOp .eql 26 (.tmp 66) (.tmp 68) 26, type := 4, pos := "make.go:36", after := #[{ on := 13, ground := .data }, { on := 15, ground := .data }, { on := 5, ground := .guard }], guard := some (5, true) } : Oper)) (v := undef) rfl (by kernel_rfl) (by kernel_rfl) (by kernel_rfl) (fun _ _ _ h => h) (Or.inr ⟨by rfl, rfl⟩) (by assumption) ?_
    try simp only [Act.put, List.setIfInBounds_toArray, List.set_cons_zero, List.set_cons_succ]
    refine wpAnyH_take (i := 17) (oi := ({ dst := some 70, op := .pick (.tmp 58) (.tmp 69) (.const (.bool false)), type := 4, pos := "make.go:36", after := #[{ on := 5, ground := .data }, { on := 16, ground := .data }], guard := none } : Oper)) (v := ?_) rfl (by kernel_rfl) (by kernel_rfl) (by kernel_rfl) (fun _ _ _ h => h) (Or.inl ⟨by rfl, ?_⟩) (by assumption) ?_
    rotate_left
    · (intro w hSw; (try dsimp only at hSw); go_simp; try with_reducible rfl)
    try simp only [Act.put, List.setIfInBounds_toArray, List.set_cons_zero, List.set_cons_succ]
    refine wpAnyH_take (i := 18) (oi := ({ dst := some 6, op := .assign (.tmp 70), type := 4, pos := "make.go:36", after := #[{ on := 17, ground := .data }, { on := 13, ground := .chain }, { on := 0, ground := .phase }, { on := 1, ground := .phase }, { on := 2, ground := .phase }, { on := 3, ground := .phase }, { on := 4, ground := .phase }, { on := 5, ground := .phase }, { on := 6, ground := .phase }, { on := 7, ground := .phase }, { on := 8, ground := .phase }, { on := 9, ground := .phase }, { on := 10, ground := .phase }, { on := 11, ground := .phase }, { on := 12, ground := .phase }, { on := 13, ground := .phase }, { on := 14, ground := .phase }, { on := 15, ground := .phase }, { on := 16, ground := .phase }, { on := 17, ground := .phase }], guard := none } : Oper)) (v := ?_) rfl (by kernel_rfl) (by kernel_rfl) (by kernel_rfl) (fun _ _ _ h => h) (Or.inl ⟨by rfl, ?_⟩) (by assumption) ?_
    rotate_left
    · (intro w hSw; (try dsimp only at hSw); go_simp; try with_reducible rfl)
    try simp only [Act.put, List.setIfInBounds_toArray, List.set_cons_zero, List.set_cons_succ]
    refine wpAnyH_done (by kernel_rfl) ?_ _
    refine NoPanic.normal ?_
    skip
    go_wp2_with fail
    go_returns
    exact ⟨by rw [HN.out]; rfl, ke.trans' kg⟩
  have d3 : (sm == xs) = true := by simpa using h3
  have HN := Lib.hid (show fitW s d k b = eb by rw [HF2.out, d3]; rfl)
  clear h3
  refine wp_region_noPanic ?_
  refine wp_region_held_drew (S := fun w' => w'.cell? ⟨px, 0, none⟩ = some (.int .i64 xs) ∧ w'.cell? ⟨M, 0, none⟩ = some (.int .i64 (V : Nat)) ∧ w'.rangeAt px 1 (bs xi)) (by kernel_rfl) ?_ (fun hHeld0 => ?_)
  · (try dsimp only); exact ⟨kg.cell x0 (by simp), kg.cell (ke.cell g0 (by simp)) (by simp), by rw [show (1 : Nat) = 0 + 1 from rfl]; exact rangeAt_keep x1 kg (by simp)⟩
  refine wpAnyH_take (i := 0) (oi := ({ dst := some 53, op := .move (.tmp 7), type := 22, pos := "make.go:36", after := #[], guard := none } : Oper)) (v := ?_) rfl (by kernel_rfl) (by kernel_rfl) (by kernel_rfl) (fun _ _ _ h => h) (Or.inl ⟨by rfl, ?_⟩) (by assumption) ?_
  rotate_left
  · (intro w hSw; (try dsimp only at hSw); go_simp; try with_reducible rfl)
  try simp only [Act.put, List.setIfInBounds_toArray, List.set_cons_zero, List.set_cons_succ]
  refine wpAnyH_take (i := 2) (oi := ({ dst := some 55, op := .fieldAddr 45 (.tmp 8) 0, type := 0, pos := "make.go:36", after := #[], guard := none } : Oper)) (v := ?_) rfl (by kernel_rfl) (by kernel_rfl) (by kernel_rfl) (fun _ _ _ h => h) (Or.inl ⟨by rfl, ?_⟩) (by assumption) ?_
  rotate_left
  · (intro w hSw; (try dsimp only at hSw); go_simp; try with_reducible rfl)
  try simp only [Act.put, List.setIfInBounds_toArray, List.set_cons_zero, List.set_cons_succ]
  refine wpAnyH_take (i := 3) (oi := ({ dst := some 56, op := .load 3 (.tmp 55), type := 3, pos := "make.go:36", after := #[{ on := 2, ground := .data }], guard := none } : Oper)) (v := ?_) rfl (by kernel_rfl) (by kernel_rfl) (by kernel_rfl) (fun _ _ _ h => h) (Or.inl ⟨by rfl, ?_⟩) (by assumption) ?_
  rotate_left
  · (intro w hSw; (try dsimp only at hSw); have q1 := hSw.1; go_simp; try with_reducible rfl)
  try simp only [Act.put, List.setIfInBounds_toArray, List.set_cons_zero, List.set_cons_succ]
  refine wpAnyH_ready (rs := [1]) (by kernel_rfl) (by simp) ?_
  refine (AllReadyH.cons (o := ({ dst := some 54, op := .call { callee := .value (.func 44), args := #[.tmp 53], argTypes := #[22] }, type := 3, pos := "make.go:36", after := #[{ on := 0, ground := .data }], guard := none } : Oper)) rfl (fun K hK => ?_) AllReadyH.nil)
  go_simp
  (refine (SUM.out _ (ke.trans' kg)).mono ?_; rintro e w' ⟨rfl, kn⟩; have kg := kg.trans' kn)
  go_wp2_with fail
  refine hK.out _ _ ?_ (fun hHeld1 => ?_)
  · (try dsimp only); exact ⟨kg.cell x0 (by simp), kg.cell (ke.cell g0 (by simp)) (by simp), by rw [show (1 : Nat) = 0 + 1 from rfl]; exact rangeAt_keep x1 kg (by simp)⟩
  clear hK K
  try simp only [Act.put, List.setIfInBounds_toArray, List.set_cons_zero, List.set_cons_succ]
  refine wpAnyH_take (i := 4) (oi := ({ dst := some 57, op := .binOp .eql 3 (.tmp 54) (.tmp 56) 3, type := 4, pos := "make.go:36", after := #[{ on := 1, ground := .data }, { on := 3, ground := .data }], guard := none } : Oper)) (v := ?_) rfl (by kernel_rfl) (by kernel_rfl) (by kernel_rfl) (fun _ _ _ h => h) (Or.inl ⟨by rfl, ?_⟩) (by assumption) ?_
  rotate_left
  · (intro w hSw; (try dsimp only at hSw); go_simp; try with_reducible rfl)
  try simp only [Act.put, List.setIfInBounds_toArray, List.set_cons_zero, List.set_cons_succ]
  refine wpAnyH_take (i := 5) (oi := ({ dst := some 58, op := .move (.tmp 57), type := 4, pos := "make.go:36", after := #[{ on := 4, ground := .data }, { on := 1, ground := .chain }], guard := none } : Oper)) (v := ?_) rfl (by kernel_rfl) (by kernel_rfl) (by kernel_rfl) (fun _ _ _ h => h) (Or.inl ⟨by rfl, ?_⟩) (by assumption) ?_
  rotate_left
  · (intro w hSw; (try dsimp only at hSw); go_simp; try with_reducible rfl)
  try simp only [Act.put, List.setIfInBounds_toArray, List.set_cons_zero, List.set_cons_succ]
  refine wpAnyH_take (i := 6) (oi := ({ dst := some 59, op := .move (.tmp 0), type := 78, pos := "make.go:36", after := #[{ on := 5, ground := .guard }], guard := some (5, true) } : Oper)) (v := ?_) rfl (by kernel_rfl) (by kernel_rfl) (by kernel_rfl) (fun _ _ _ h => h) (Or.inl ⟨by rfl, ?_⟩) (by assumption) ?_
  rotate_left
  · (intro w hSw; (try dsimp only at hSw); go_simp; try with_reducible rfl)
  try simp only [Act.put, List.setIfInBounds_toArray, List.set_cons_zero, List.set_cons_succ]
  refine wpAnyH_take (i := 7) (oi := ({ dst := some 60, op := .nilCheck (.tmp 59), type := 0, pos := "make.go:36", after := #[{ on := 6, ground := .data }, { on := 5, ground := .guard }], guard := some (5, true) } : Oper)) (v := ?_) rfl (by kernel_rfl) (by kernel_rfl) (by kernel_rfl) (fun _ _ _ h => h) (Or.inl ⟨by rfl, ?_⟩) (by assumption) ?_
  rotate_left
  · (intro w hSw; (try dsimp only at hSw); go_simp; try with_reducible rfl)
  try simp only [Act.put, List.setIfInBounds_toArray, List.set_cons_zero, List.set_cons_succ]
  refine wpAnyH_take (i := 8) (oi := ({ dst := some 61, op := .fieldAddr 81 (.tmp 60) 0, type := 0, pos := "make.go:36", after := #[{ on := 7, ground := .data }, { on := 5, ground := .guard }], guard := some (5, true) } : Oper)) (v := ?_) rfl (by kernel_rfl) (by kernel_rfl) (by kernel_rfl) (fun _ _ _ h => h) (Or.inl ⟨by rfl, ?_⟩) (by assumption) ?_
  rotate_left
  · (intro w hSw; (try dsimp only at hSw); go_simp; try with_reducible rfl)
  try simp only [Act.put, List.setIfInBounds_toArray, List.set_cons_zero, List.set_cons_succ]
  refine wpAnyH_take (i := 9) (oi := ({ dst := some 62, op := .fieldAddr 29 (.tmp 61) 0, type := 0, pos := "make.go:36", after := #[{ on := 8, ground := .data }, { on := 5, ground := .guard }], guard := some (5, true) } : Oper)) (v := ?_) rfl (by kernel_rfl) (by kernel_rfl) (by kernel_rfl) (fun _ _ _ h => h) (Or.inl ⟨by rfl, ?_⟩) (by assumption) ?_
  rotate_left
  · (intro w hSw; (try dsimp only at hSw); go_simp; try with_reducible rfl)
  try simp only [Act.put, List.setIfInBounds_toArray, List.set_cons_zero, List.set_cons_succ]
  refine wpAnyH_take (i := 10) (oi := ({ dst := some 63, op := .load 3 (.tmp 62), type := 3, pos := "make.go:36", after := #[{ on := 9, ground := .data }, { on := 5, ground := .guard }], guard := some (5, true) } : Oper)) (v := ?_) rfl (by kernel_rfl) (by kernel_rfl) (by kernel_rfl) (fun _ _ _ h => h) (Or.inl ⟨by rfl, ?_⟩) (by assumption) ?_
  rotate_left
  · (intro w hSw; (try dsimp only at hSw); have q1 := hSw.2.1; go_simp; try with_reducible rfl)
  try simp only [Act.put, List.setIfInBounds_toArray, List.set_cons_zero, List.set_cons_succ]
  refine wpAnyH_take (i := 11) (oi := ({ dst := some 64, op := .move (.tmp 7), type := 22, pos := "make.go:36", after := #[{ on := 5, ground := .guard }], guard := some (5, true) } : Oper)) (v := ?_) rfl (by kernel_rfl) (by kernel_rfl) (by kernel_rfl) (fun _ _ _ h => h) (Or.inl ⟨by rfl, ?_⟩) (by assumption) ?_
  rotate_left
  · (intro w hSw; (try dsimp only at hSw); go_simp; try with_reducible rfl)
  try simp only [Act.put, List.setIfInBounds_toArray, List.set_cons_zero, List.set_cons_succ]
  refine wpAnyH_take (i := 14) (oi := ({ dst := some 67, op := .fieldAddr 45 (.tmp 8) 1, type := 0, pos := "make.go:36", after := #[{ on := 5, ground := .guard }], guard := some (5, true) } : Oper)) (v := ?_) rfl (by kernel_rfl) (by kernel_rfl) (by kernel_rfl) (fun _ _ _ h => h) (Or.inl ⟨by rfl, ?_⟩) (by assumption) ?_
  rotate_left
  · (intro w hSw; (try dsimp only at hSw); go_simp; try with_reducible rfl)
  try simp only [Act.put, List.setIfInBounds_toArray, List.set_cons_zero, List.set_cons_succ]
  refine wpAnyH_take (i := 15) (oi := ({ dst := some 68, op := .load 26 (.tmp 67), type := 26, pos := "make.go:36", after := #[{ on := 14, ground := .data }, { on := 5, ground := .guard }], guard := some (5, true) } : Oper)) (v := .agg (List.toArray (bs xi))) rfl (by kernel_rfl) (by kernel_rfl) (by kernel_rfl) (fun _ _ _ h => h) (yieldsIf_load_mid (by rfl) _ _ rfl _ _ rfl (bs xi) _ (fun w hSw => hSw.2.2) Try.underlying26 rfl HXI.out) (by assumption) ?_
  try simp only [Act.put, List.setIfInBounds_toArray, List.set_cons_zero, List.set_cons_succ]
  refine wpAnyH_ready (rs := [12]) (by kernel_rfl) (by simp) ?_
  refine (AllReadyH.cons (o := ({ dst := some 65, op := .buildSlice 124 1 #[(0, .tmp 64)], type := 124, pos := "make.go:36", after := #[{ on := 11, ground := .data }, { on := 5, ground := .guard }], guard := some (5, true) } : Oper)) rfl (fun K hK => ?_) AllReadyH.nil)
  (refine step_buildS_wf (by rfl) (.tmp 64) rfl (some ⟨tb, tof + k, none⟩) Z (tc - k) rfl ?_; intro q wN' hq Bq kn; have kg := kg.trans' kn)
  refine hK.out _ _ ?_ (fun hHeld2 => ?_)
  · (try dsimp only); exact ⟨kg.cell x0 (by simp), kg.cell (ke.cell g0 (by simp)) (by simp), by rw [show (1 : Nat) = 0 + 1 from rfl]; exact rangeAt_keep x1 kg (by simp)⟩
  clear hK K
  try simp only [Act.put, List.setIfInBounds_toArray, List.set_cons_zero, List.set_cons_succ]
  refine wpAnyH_ready (rs := [13]) (by kernel_rfl) (by simp) ?_
  refine (AllReadyH.cons (o := ({ dst := some 66, op := .call { callee := .value (.func 43), args := #[.tmp 63, .tmp 65], argTypes := #[3, 124] }, type := 26, pos := "make.go:36", after := #[{ on := 10, ground := .data }, { on := 12, ground := .data }, { on := 5, ground := .chain }, { on := 5, ground := .guard }], guard := some (5, true) } : Oper)) rfl (fun K hK => ?_) AllReadyH.nil)
  go_simp
  (refine (OF.out _ q (ke.trans' kg) Bq).mono ?_; rintro e w' ⟨rfl, kn⟩; have kg := kg.trans' kn)
  go_wp2_with fail
  refine hK.out _ _ ?_ (fun hHeld3 => ?_)
  · (try dsimp only); exact ⟨kg.cell x0 (by simp), kg.cell (ke.cell g0 (by simp)) (by simp), by rw [show (1 : Nat) = 0 + 1 from rfl]; exact rangeAt_keep x1 kg (by simp)⟩
  clear hK K
  try simp only [Act.put, List.setIfInBounds_toArray, List.set_cons_zero, List.set_cons_succ]
  refine wpAnyH_take (i := 16) (oi := ({ dst := some 69, op := .binOp .eql 26 (.tmp 66) (.tmp 68) 26, type := 4, pos := "make.go:36", after := #[{ on := 13, ground := .data }, { on := 15, ground := .data }, { on := 5, ground := .guard }], guard := some (5, true) } : Oper)) (v := ?_) rfl (by kernel_rfl) (by kernel_rfl) (by kernel_rfl) (fun _ _ _ h => h) (Or.inl ⟨by rfl, ?_⟩) (by assumption) ?_
  rotate_left
  · (intro w hSw; (try dsimp only at hSw); go_simp; try with_reducible rfl)
  try simp only [Act.put, List.setIfInBounds_toArray, List.set_cons_zero, List.set_cons_succ]
  refine wpAnyH_take (i := 17) (oi := ({ dst := some 70, op := .pick (.tmp 58) (.tmp 69) (.const (.bool false)), type := 4, pos := "make.go:36", after := #[{ on := 5, ground := .data }, { on := 16, ground := .data }], guard := none } : Oper)) (v := ?_) rfl (by kernel_rfl) (by kernel_rfl) (by kernel_rfl) (fun _ _ _ h => h) (Or.inl ⟨by rfl, ?_⟩) (by assumption) ?_
  rotate_left
  · (intro w hSw; (try dsimp only at hSw); go_simp; try with_reducible rfl)
  try simp only [Act.put, List.setIfInBounds_toArray, List.set_cons_zero, List.set_cons_succ]
  refine wpAnyH_take (i := 18) (oi := ({ dst := some 6, op := .assign (.tmp 70), type := 4, pos := "make.go:36", after := #[{ on := 17, ground := .data }, { on := 13, ground := .chain }, { on := 0, ground := .phase }, { on := 1, ground := .phase }, { on := 2, ground := .phase }, { on := 3, ground := .phase }, { on := 4, ground := .phase }, { on := 5, ground := .phase }, { on := 6, ground := .phase }, { on := 7, ground := .phase }, { on := 8, ground := .phase }, { on := 9, ground := .phase }, { on := 10, ground := .phase }, { on := 11, ground := .phase }, { on := 12, ground := .phase }, { on := 13, ground := .phase }, { on := 14, ground := .phase }, { on := 15, ground := .phase }, { on := 16, ground := .phase }, { on := 17, ground := .phase }], guard := none } : Oper)) (v := ?_) rfl (by kernel_rfl) (by kernel_rfl) (by kernel_rfl) (fun _ _ _ h => h) (Or.inl ⟨by rfl, ?_⟩) (by assumption) ?_
  rotate_left
  · (intro w hSw; (try dsimp only at hSw); go_simp; try with_reducible rfl)
  try simp only [Act.put, List.setIfInBounds_toArray, List.set_cons_zero, List.set_cons_succ]
  refine wpAnyH_done (by kernel_rfl) ?_ _
  refine NoPanic.normal ?_
  skip
  go_wp2_with fail
  go_returns
  exact ⟨by rw [HN.out]; rfl, ke.trans' kg⟩
end Go.Proofs.Ytpocegdlobnhaaa
end
section
/- first: the walk. -/
set_option linter.unusedVariables false
set_option linter.unusedSimpArgs false
set_option maxRecDepth 100000
namespace Go.Proofs.Ytpocegdlobnhaaa
open Go.RowKit
theorem groups_lt {l : List Wk} {n : Nat} {k : Int} {i : Nat} (h : i ∈ groups l n k) : i < n := by
  simp only [groups, List.mem_filter, List.mem_range] at h; exact h.1
theorem groups_le (l : List Wk) (n : Nat) (k : Int) : (groups l n k).length ≤ n := by
  unfold groups; exact Nat.le_trans (List.length_filter_le _ _) (by simp)
theorem find_at {α : Type} {p : α → Bool} {l : List α} {j : Nat} {x : α} (h : (l.take j).find? p = none) (hx : l[j]? = some x) (hp : p x = true) : l.find? p = some x := by
  have e : l = l.take j ++ x :: l.drop (j + 1) := by
    have hj := (List.getElem?_eq_some_iff.1 hx).1
    have h2 := List.drop_eq_getElem_cons hj
    rw [List.getElem?_eq_getElem hj] at hx
    obtain rfl : l[j] = x := by simpa using hx
    rw [← h2, List.take_append_drop]
  rw [e, List.find?_append, h]; simp [hp]
theorem find_more {α : Type} {p : α → Bool} {l : List α} {j : Nat} {x : α} (h : (l.take j).find? p = none) (hx : l[j]? = some x) (hp : p x = false) : (l.take (j + 1)).find? p = none := by
  rw [List.take_add_one, hx, List.find?_append, h]; simp [hp]
theorem find_end {α : Type} {p : α → Bool} {l : List α} (h : (l.take l.length).find? p = none) : l.find? p = none := by rwa [List.take_length] at h
set_option maxHeartbeats 8000000 in
theorem first_any (M : Nat) (s : Sg) (a : Option Addr) (n c : Nat) (ta : Option Addr) (tn tc : Nat) (d : List UInt8) (r V Z k : Nat) (sum : Int) (w : World) (h : MkAt w M s a n c ta tn tc d r) (hV : s.width = V) (hZ : s.size = Z) (hV1 : 1 ≤ V ∧ V ≤ 32) (hZ1 : 16 ≤ Z ∧ Z ≤ 4096) (hk : k + Z ≤ tn) (htn : tn ≤ 131072) (hbn : n ≤ 2048) :
    Calls Try.prog 105 #[.pointer (some ⟨M, 0, none⟩), .int .i64 (k : Nat), .int .i64 sum] w fun e w' => e = .returned (.int .i64 (firstI s d k sum)) ∧ Keep [] w w' := by
  have hzN : s.size.toNat = Z := by rw [hZ]; simp
  have hbl := h.ws.hlen
  obtain ⟨L, hL⟩ : ∃ L, groups s.blocks n sum = L := ⟨_, rfl⟩
  have HFO : Hid (firstO s d k sum = L.find? fun i => decide ((s.blocks[i]?).map (·.id) = some (Dig.shaId V (winF d Z k)))) := Lib.hid (by rw [firstO, hzN, hV, hbl, hL])
  obtain ⟨la, lm, lc, hlk, hlm, hsl, -, -⟩ := h.mp.looked sum
  rw [hL] at hlm hsl
  have hlt : ∀ i ∈ L, i < n := fun i hi => by rw [← hL] at hi; exact groups_lt hi
  have hlm2 : lm ≤ 2048 := by rw [← hlm, ← hL]; exact Nat.le_trans (groups_le _ _ _) hbn
  have hrd := hsl.rd
  have hl := h.tg.hlen
  have hle := h.tg.hle
  have g0 := h.c0
  have g1 := h.c1
  have g35 := h.c35
  have g36 := h.c36
  have g37 := h.c37
  rw [hV] at g0
  rw [hZ] at g1
  have HK := Lib.hid h
  have HLM := Lib.hid hlm
  have HLT := Lib.hid hlt
  have HBL := Lib.hid hbl
  have u0 : IntKind.i64.wrap ((k : Int) + Z) = (k : Int) + Z := IntWalk.i64_in _ (by omega)
  clear hV hZ hzN h hl hbl hL hlm hsl hlt
  by_cases h1 : lm = 0
  · subst h1
    have HN := Lib.hid (show firstI s d k sum = -1 by
      have : L = [] := List.eq_nil_of_length_eq_zero HLM.out
      rw [firstI, HFO.out, this]; rfl)
    go_enter Try.func105, Try.ntmps105
    go_wp2_with fail
    go_returns
    exact ⟨by rw [HN.out]; rfl, Keep.refl [] w⟩
  have d1 : ((lm : Int) == 0) = false := by simp; omega
  obtain ⟨tb, tof, rfl, hIn⟩ := in_part HK.out.tg (o := k) (m := Z) (by omega) (by omega)
  obtain ⟨ws, hws⟩ : ∃ ws, winF d Z k = ws := ⟨_, rfl⟩
  have hIn2 : InBytes w (some ⟨tb, tof + k, none⟩) Z (tc - k) ws := by rw [← hws]; exact hIn
  obtain ⟨sb, hsb⟩ : ∃ z, Dig.shaId V ws = z := ⟨_, rfl⟩
  have hsl : sb.length = 32 := by rw [← hsb]; exact Dig.shaId_length _ _
  have HF2 : Hid (firstO s d k sum = L.find? fun i => decide ((s.blocks[i]?).map (·.id) = some sb)) := Lib.hid (by rw [HFO.out, hws, hsb])
  have HIN := Lib.hid hIn2
  have OF := Lib.hid (fun W' q k' (Bq : Blk W' q #[.slice (some ⟨tb, tof + k, none⟩) Z (tc - k)] 22) => by have := of_one (V : Nat) Bq (HIN.out.keep k' (by simp)); rw [hsb] at this; exact this : ∀ W' q, Keep [] w W' → Blk W' q #[.slice (some ⟨tb, tof + k, none⟩) Z (tc - k)] 22 → Calls Try.prog 43 #[.int .i64 (V : Nat), .slice (some ⟨q, 0, none⟩) 1 1] W' fun e w' => e = .returned (.agg (bs sb).toArray) ∧ Keep [] W' w')
  have j1 : (k : Int) + Z ≤ tc := by omega
  have j2 : (0 : Int) ≤ k := by omega
  have j3 : (k : Int) ≤ (k : Int) + Z := by omega
  have j4 : ((k : Int) + Z).toNat = k + Z := by omega
  have j5 : k + Z - k = Z := by omega
  have j6 : ¬ tc = k := by omega
  have j7 : (k : Int) + Z ≤ tn := by omega
  have j8 : (0 : Int) ≤ (k : Int) + Z := by omega
  have HSI := Lib.hid (hi26 hsl)
  have HS1 := Lib.hid (bs_one sb)
  have HSL := Lib.hid hsl
  have HSN := Lib.hid (show (bs sb).length = 32 by rw [bs_length]; exact hsl)
  clear hws hsb hIn hIn2 HFO hsl
  go_enter Try.func105, Try.ntmps105
  go_upto_region 4 with fail
  have ke : Keep [] w w.drew := (Keep.refl [] w).drew
  go_cut [8] (fun v8 wc => ∃ p, v8 = .pointer (some ⟨p, 0, none⟩) ∧ Blk wc p (bs sb).toArray 26 ∧ Keep [] w wc)
  case first =>
    refine wp_region_noPanic ?_
    refine wp_region_held_drew (S := fun w' => w'.cell? ⟨M, 1, none⟩ = some (.int .i64 (Z : Nat)) ∧ w'.cell? ⟨M, 0, none⟩ = some (.int .i64 (V : Nat)) ∧ w'.cell? ⟨M, 36, none⟩ = some (.slice (some ⟨tb, tof, none⟩) tn tc)) (by kernel_rfl) ?_ (fun hHeld0 => ?_)
    · (try dsimp only); exact ⟨ke.cell g1 (by simp), ke.cell g0 (by simp), ke.cell g36 (by simp)⟩
    refine wpAnyH_take (i := 0) (oi := ({ dst := some 20, op := .move (.tmp 0), type := 78, pos := "make.go:45", after := #[], guard := none } : Oper)) (v := ?_) rfl (by kernel_rfl) (by kernel_rfl) (by kernel_rfl) (fun _ _ _ h => h) (Or.inl ⟨by rfl, ?_⟩) (by assumption) ?_
    rotate_left
    · (intro w hSw; (try dsimp only at hSw); go_simp; try with_reducible rfl)
    try simp only [Act.put, List.setIfInBounds_toArray, List.set_cons_zero, List.set_cons_succ]
    refine wpAnyH_take (i := 1) (oi := ({ dst := some 21, op := .nilCheck (.tmp 20), type := 0, pos := "make.go:45", after := #[{ on := 0, ground := .data }], guard := none } : Oper)) (v := ?_) rfl (by kernel_rfl) (by kernel_rfl) (by kernel_rfl) (fun _ _ _ h => h) (Or.inl ⟨by rfl, ?_⟩) (by assumption) ?_
    rotate_left
    · (intro w hSw; (try dsimp only at hSw); go_simp; try with_reducible rfl)
    try simp only [Act.put, List.setIfInBounds_toArray, List.set_cons_zero, List.set_cons_succ]
    refine wpAnyH_take (i := 2) (oi := ({ dst := some 22, op := .fieldAddr 81 (.tmp 21) 0, type := 0, pos := "make.go:45", after := #[{ on := 1, ground := .data }], guard := none } : Oper)) (v := ?_) rfl (by kernel_rfl) (by kernel_rfl) (by kernel_rfl) (fun _ _ _ h => h) (Or.inl ⟨by rfl, ?_⟩) (by assumption) ?_
    rotate_left
    · (intro w hSw; (try dsimp only at hSw); go_simp; try with_reducible rfl)
    try simp only [Act.put, List.setIfInBounds_toArray, List.set_cons_zero, List.set_cons_succ]
    refine wpAnyH_take (i := 3) (oi := ({ dst := some 23, op := .fieldAddr 29 (.tmp 22) 0, type := 0, pos := "make.go:45", after := #[{ on := 2, ground := .data }], guard := none } : Oper)) (v := ?_) rfl (by kernel_rfl) (by kernel_rfl) (by kernel_rfl) (fun _ _ _ h => h) (Or.inl ⟨by rfl, ?_⟩) (by assumption) ?_
    rotate_left
    · (intro w hSw; (try dsimp only at hSw); go_simp; try with_reducible rfl)
    try simp only [Act.put, List.setIfInBounds_toArray, List.set_cons_zero, List.set_cons_succ]
    refine wpAnyH_take (i := 4) (oi := ({ dst := some 24, op := .load 3 (.tmp 23), type := 3, pos := "make.go:45", after := #[{ on := 3, ground := .data }], guard := none } : Oper)) (v := ?_) rfl (by kernel_rfl) (by kernel_rfl) (by kernel_rfl) (fun _ _ _ h => h) (Or.inl ⟨by rfl, ?_⟩) (by assumption) ?_
    rotate_left
    · (intro w hSw; (try dsimp only at hSw); have q1 := hSw.2.1; go_simp; try with_reducible rfl)
    try simp only [Act.put, List.setIfInBounds_toArray, List.set_cons_zero, List.set_cons_succ]
    refine wpAnyH_take (i := 5) (oi := ({ dst := some 25, op := .move (.tmp 0), type := 78, pos := "make.go:45", after := #[], guard := none } : Oper)) (v := ?_) rfl (by kernel_rfl) (by kernel_rfl) (by kernel_rfl) (fun _ _ _ h => h) (Or.inl ⟨by rfl, ?_⟩) (by assumption) ?_
    rotate_left
    · (intro w hSw; (try dsimp only at hSw); go_simp; try with_reducible rfl)
    try simp only [Act.put, List.setIfInBounds_toArray, List.set_cons_zero, List.set_cons_succ]
    refine wpAnyH_take (i := 6) (oi := ({ dst := some 26, op := .nilCheck (.tmp 25), type := 0, pos := "make.go:45", after := #[{ on := 5, ground := .data }], guard := none } : Oper)) (v := ?_) rfl (by kernel_rfl) (by kernel_rfl) (by kernel_rfl) (fun _ _ _ h => h) (Or.inl ⟨by rfl, ?_⟩) (by assumption) ?_
    rotate_left
    · (intro w hSw; (try dsimp only at hSw); go_simp; try with_reducible rfl)
    try simp only [Act.put, List.setIfInBounds_toArray, List.set_cons_zero, List.set_cons_succ]
    refine wpAnyH_take (i := 7) (oi := ({ dst := some 27, op := .fieldAddr 81 (.tmp 26) 1, type := 0, pos := "make.go:45", after := #[{ on := 6, ground := .data }], guard := none } : Oper)) (v := ?_) rfl (by kernel_rfl) (by kernel_rfl) (by kernel_rfl) (fun _ _ _ h => h) (Or.inl ⟨by rfl, ?_⟩) (by assumption) ?_
    rotate_left
    · (intro w hSw; (try dsimp only at hSw); go_simp; try with_reducible rfl)
    try simp only [Act.put, List.setIfInBounds_toArray, List.set_cons_zero, List.set_cons_succ]
    refine wpAnyH_take (i := 8) (oi := ({ dst := some 28, op := .load 22 (.tmp 27), type := 22, pos := "make.go:45", after := #[{ on := 7, ground := .data }], guard := none } : Oper)) (v := ?_) rfl (by kernel_rfl) (by kernel_rfl) (by kernel_rfl) (fun _ _ _ h => h) (Or.inl ⟨by rfl, ?_⟩) (by assumption) ?_
    rotate_left
    · (intro w hSw; (try dsimp only at hSw); have q1 := hSw.2.2; go_simp; try with_reducible rfl)
    try simp only [Act.put, List.setIfInBounds_toArray, List.set_cons_zero, List.set_cons_succ]
    refine wpAnyH_take (i := 9) (oi := ({ dst := some 29, op := .move (.tmp 1), type := 3, pos := "make.go:45", after := #[], guard := none } : Oper)) (v := ?_) rfl (by kernel_rfl) (by kernel_rfl) (by kernel_rfl) (fun _ _ _ h => h) (Or.inl ⟨by rfl, ?_⟩) (by assumption) ?_
    rotate_left
    · (intro w hSw; (try dsimp only at hSw); go_simp; try with_reducible rfl)
    try simp only [Act.put, List.setIfInBounds_toArray, List.set_cons_zero, List.set_cons_succ]
    refine wpAnyH_take (i := 10) (oi := ({ dst := some 30, op := .move (.tmp 1), type := 3, pos := "make.go:45", after := #[], guard := none } : Oper)) (v := ?_) rfl (by kernel_rfl) (by kernel_rfl) (by kernel_rfl) (fun _ _ _ h => h) (Or.inl ⟨by rfl, ?_⟩) (by assumption) ?_
    rotate_left
    · (intro w hSw; (try dsimp only at hSw); go_simp; try with_reducible rfl)
    try simp only [Act.put, List.setIfInBounds_toArray, List.set_cons_zero, List.set_cons_succ]
    refine wpAnyH_take (i := 11) (oi := ({ dst := some 31, op := .move (.tmp 0), type := 78, pos := "make.go:45", after := #[], guard := none } : Oper)) (v := ?_) rfl (by kernel_rfl) (by kernel_rfl) (by kernel_rfl) (fun _ _ _ h => h) (Or.inl ⟨by rfl, ?_⟩) (by assumption) ?_
    rotate_left
    · (intro w hSw; (try dsimp only at hSw); go_simp; try with_reducible rfl)
    try simp only [Act.put, List.setIfInBounds_toArray, List.set_cons_zero, List.set_cons_succ]
    refine wpAnyH_take (i := 12) (oi := ({ dst := some 32, op := .nilCheck (.tmp 31), type := 0, pos := "make.go:45", after := #[{ on := 11, ground := .data }], guard := none } : Oper)) (v := ?_) rfl (by kernel_rfl) (by kernel_rfl) (by kernel_rfl) (fun _ _ _ h => h) (Or.inl ⟨by rfl, ?_⟩) (by assumption) ?_
    rotate_left
    · (intro w hSw; (try dsimp only at hSw); go_simp; try with_reducible rfl)
    try simp only [Act.put, List.setIfInBounds_toArray, List.set_cons_zero, List.set_cons_succ]
    refine wpAnyH_take (i := 13) (oi := ({ dst := some 33, op := .fieldAddr 81 (.tmp 32) 0, type := 0, pos := "make.go:45", after := #[{ on := 12, ground := .data }], guard := none } : Oper)) (v := ?_) rfl (by kernel_rfl) (by kernel_rfl) (by kernel_rfl) (fun _ _ _ h => h) (Or.inl ⟨by rfl, ?_⟩) (by assumption) ?_
    rotate_left
    · (intro w hSw; (try dsimp only at hSw); go_simp; try with_reducible rfl)
    try simp only [Act.put, List.setIfInBounds_toArray, List.set_cons_zero, List.set_cons_succ]
    refine wpAnyH_take (i := 14) (oi := ({ dst := some 34, op := .fieldAddr 29 (.tmp 33) 1, type := 0, pos := "make.go:45", after := #[{ on := 13, ground := .data }], guard := none } : Oper)) (v := ?_) rfl (by kernel_rfl) (by kernel_rfl) (by kernel_rfl) (fun _ _ _ h => h) (Or.inl ⟨by rfl, ?_⟩) (by assumption) ?_
    rotate_left
    · (intro w hSw; (try dsimp only at hSw); go_simp; try with_reducible rfl)
    try simp only [Act.put, List.setIfInBounds_toArray, List.set_cons_zero, List.set_cons_succ]
    refine wpAnyH_take (i := 15) (oi := ({ dst := some 35, op := .load 3 (.tmp 34), type := 3, pos := "make.go:45", after := #[{ on := 14, ground := .data }], guard := none } : Oper)) (v := ?_) rfl (by kernel_rfl) (by kernel_rfl) (by kernel_rfl) (fun _ _ _ h => h) (Or.inl ⟨by rfl, ?_⟩) (by assumption) ?_
    rotate_left
    · (intro w hSw; (try dsimp only at hSw); have q1 := hSw.1; go_simp; try with_reducible rfl)
    try simp only [Act.put, List.setIfInBounds_toArray, List.set_cons_zero, List.set_cons_succ]
    refine wpAnyH_take (i := 16) (oi := ({ dst := some 36, op := .binOp .add 3 (.tmp 30) (.tmp 35) 3, type := 3, pos := "make.go:45", after := #[{ on := 10, ground := .data }, { on := 15, ground := .data }], guard := none } : Oper)) (v := ?_) rfl (by kernel_rfl) (by kernel_rfl) (by kernel_rfl) (fun _ _ _ h => h) (Or.inl ⟨by rfl, ?_⟩) (by assumption) ?_
    rotate_left
    · (intro w hSw; (try dsimp only at hSw); go_simp; try with_reducible rfl)
    try simp only [Act.put, List.setIfInBounds_toArray, List.set_cons_zero, List.set_cons_succ]
    refine wpAnyH_take (i := 17) (oi := ({ dst := some 37, op := .slice 22 (.tmp 28) (some (.tmp 29)) (some (.tmp 36)) none, type := 22, pos := "make.go:45", after := #[{ on := 8, ground := .data }, { on := 9, ground := .data }, { on := 16, ground := .data }], guard := none } : Oper)) (v := ?_) rfl (by kernel_rfl) (by kernel_rfl) (by kernel_rfl) (fun _ _ _ h => h) (Or.inl ⟨by rfl, ?_⟩) (by assumption) ?_
    rotate_left
    · (intro w hSw; (try dsimp only at hSw); go_simp; try with_reducible rfl)
    try simp only [Act.put, List.setIfInBounds_toArray, List.set_cons_zero, List.set_cons_succ]
    refine wpAnyH_ready (rs := [18, 20]) (by kernel_rfl) (by simp) ?_
    refine (AllReadyH.cons (o := ({ dst := some 38, op := .buildSlice 124 1 #[(0, .tmp 37)], type := 124, pos := "make.go:45", after := #[{ on := 17, ground := .data }], guard := none } : Oper)) rfl (fun K hK => ?_) (AllReadyH.cons (o := ({ dst := some 8, op := .alloc 26, type := 0, pos := "make.go:45", after := #[], guard := none } : Oper)) rfl (fun K hK => ?_) AllReadyH.nil))
    · (refine step_buildS rfl (.tmp 37) rfl (some ⟨tb, tof + k, none⟩) Z (tc - k) rfl ?_; intro q wN hq Bq kn; have ke := ke.trans' kn; (first | (have BP := BP.keep kn (by simp)) | skip))
      refine hK.out _ _ ?_ (fun hHeld1 => ?_)
      · (try dsimp only); exact ⟨ke.cell g1 (by simp), ke.cell g0 (by simp), ke.cell g36 (by simp)⟩
      clear hK K
      try simp only [Act.put, List.setIfInBounds_toArray, List.set_cons_zero, List.set_cons_succ]
      refine wpAnyH_ready (rs := [19, 20]) (by kernel_rfl) (by simp) ?_
      refine (AllReadyH.cons (o := ({ dst := some 39, op := .call { callee := .value (.func 43), args := #[.tmp 24, .tmp 38], argTypes := #[3, 124] }, type := 26, pos := "make.go:45", after := #[{ on := 4, ground := .data }, { on := 18, ground := .data }], guard := none } : Oper)) rfl (fun K hK => ?_) (AllReadyH.cons (o := ({ dst := some 8, op := .alloc 26, type := 0, pos := "make.go:45", after := #[], guard := none } : Oper)) rfl (fun K hK => ?_) AllReadyH.nil))
      · go_simp
        (refine (OF.out _ q ke Bq).mono ?_; rintro e w' ⟨rfl, kn⟩; have ke := ke.trans' kn; (first | (have BP := BP.keep kn (by simp)) | skip))
        go_wp2_with fail
        refine hK.out _ _ ?_ (fun hHeld2 => ?_)
        · (try dsimp only); exact ⟨ke.cell g1 (by simp), ke.cell g0 (by simp), ke.cell g36 (by simp)⟩
        clear hK K
        try simp only [Act.put, List.setIfInBounds_toArray, List.set_cons_zero, List.set_cons_succ]
        refine wpAnyH_ready (rs := [20]) (by kernel_rfl) (by simp) ?_
        refine (AllReadyH.cons (o := ({ dst := some 8, op := .alloc 26, type := 0, pos := "make.go:45", after := #[], guard := none } : Oper)) rfl (fun K hK => ?_) AllReadyH.nil)
        (refine step_alloc26 rfl rfl ?_; intro p wN oldx hp HOX BP kn; have hwp : w.heap.size ≤ p := Nat.le_trans ke.size hp; have ke := ke.trans' kn; (first | (have Bq := Bq.keep kn (by simp)) | skip))
        refine hK.out _ _ ?_ (fun hHeld3 => ?_)
        · (try dsimp only); exact ⟨ke.cell g1 (by simp), ke.cell g0 (by simp), ke.cell g36 (by simp)⟩
        clear hK K
        try simp only [Act.put, List.setIfInBounds_toArray, List.set_cons_zero, List.set_cons_succ]
        refine wpAnyH_ready (rs := [21]) (by kernel_rfl) (by simp) ?_
        refine (AllReadyH.cons (o := ({ dst := none, op := .store 26 (.tmp 8) (.tmp 39), type := 0, pos := "make.go:45", after := #[{ on := 20, ground := .data }, { on := 19, ground := .data }, { on := 19, ground := .chain }, { on := 0, ground := .phase }, { on := 1, ground := .phase }, { on := 2, ground := .phase }, { on := 3, ground := .phase }, { on := 4, ground := .phase }, { on := 5, ground := .phase }, { on := 6, ground := .phase }, { on := 7, ground := .phase }, { on := 8, ground := .phase }, { on := 9, ground := .phase }, { on := 10, ground := .phase }, { on := 11, ground := .phase }, { on := 12, ground := .phase }, { on := 13, ground := .phase }, { on := 14, ground := .phase }, { on := 15, ground := .phase }, { on := 16, ground := .phase }, { on := 17, ground := .phase }, { on := 18, ground := .phase }, { on := 19, ground := .phase }, { on := 20, ground := .phase }], guard := none } : Oper)) rfl (fun K hK => ?_) AllReadyH.nil)
        (refine step_storeAll rfl 26 (.tmp 8) (.tmp 39) rfl p 26 (bs sb) oldx rfl rfl BP (by rw [HOX.out, HSN.out]) HS1.out HSI.out ?_; intro wN BP kN; have ke : Keep [] w wN := ke.trans kN (fun b hb => by simp only [List.mem_singleton] at hb; subst hb; exact Or.inr hwp))
        refine hK.out _ _ ?_ (fun hHeld4 => ?_)
        · (try dsimp only); exact ⟨ke.cell g1 (by simp), ke.cell g0 (by simp), ke.cell g36 (by simp)⟩
        clear hK K
        try simp only [Act.put, List.setIfInBounds_toArray, List.set_cons_zero, List.set_cons_succ]
        refine wpAnyH_done (by kernel_rfl) ?_ _
        refine NoPanic.normal ?_
        (go_wp2_with fail; go_meet; case rel => exact ⟨p, rfl, BP, ke⟩)
      · (refine step_alloc26 rfl rfl ?_; intro p wN oldx hp HOX BP kn; have hwp : w.heap.size ≤ p := Nat.le_trans ke.size hp; have ke := ke.trans' kn; (first | (have Bq := Bq.keep kn (by simp)) | skip))
        refine hK.out _ _ ?_ (fun hHeld4 => ?_)
        · (try dsimp only); exact ⟨ke.cell g1 (by simp), ke.cell g0 (by simp), ke.cell g36 (by simp)⟩
        clear hK K
        try simp only [Act.put, List.setIfInBounds_toArray, List.set_cons_zero, List.set_cons_succ]
        refine wpAnyH_ready (rs := [19]) (by kernel_rfl) (by simp) ?_
        refine (AllReadyH.cons (o := ({ dst := some 39, op := .call { callee := .value (.func 43), args := #[.tmp 24, .tmp 38], argTypes := #[3, 124] }, type := 26, pos := "make.go:45", after := #[{ on := 4, ground := .data }, { on := 18, ground := .data }], guard := none } : Oper)) rfl (fun K hK => ?_) AllReadyH.nil)
        go_simp
        (refine (OF.out _ q ke Bq).mono ?_; rintro e w' ⟨rfl, kn⟩; have ke := ke.trans' kn; (first | (have BP := BP.keep kn (by simp)) | skip))
        go_wp2_with fail
        refine hK.out _ _ ?_ (fun hHeld5 => ?_)
        · (try dsimp only); exact ⟨ke.cell g1 (by simp), ke.cell g0 (by simp), ke.cell g36 (by simp)⟩
        clear hK K
        try simp only [Act.put, List.setIfInBounds_toArray, List.set_cons_zero, List.set_cons_succ]
        refine wpAnyH_ready (rs := [21]) (by kernel_rfl) (by simp) ?_
        refine (AllReadyH.cons (o := ({ dst := none, op := .store 26 (.tmp 8) (.tmp 39), type := 0, pos := "make.go:45", after := #[{ on := 20, ground := .data }, { on := 19, ground := .data }, { on := 19, ground := .chain }, { on := 0, ground := .phase }, { on := 1, ground := .phase }, { on := 2, ground := .phase }, { on := 3, ground := .phase }, { on := 4, ground := .phase }, { on := 5, ground := .phase }, { on := 6, ground := .phase }, { on := 7, ground := .phase }, { on := 8, ground := .phase }, { on := 9, ground := .phase }, { on := 10, ground := .phase }, { on := 11, ground := .phase }, { on := 12, ground := .phase }, { on := 13, ground := .phase }, { on := 14, ground := .phase }, { on := 15, ground := .phase }, { on := 16, ground := .phase }, { on := 17, ground := .phase }, { on := 18, ground := .phase }, { on := 19, ground := .phase }, { on := 20, ground := .phase }], guard := none } : Oper)) rfl (fun K hK => ?_) AllReadyH.nil)
        (refine step_storeAll rfl 26 (.tmp 8) (.tmp 39) rfl p 26 (bs sb) oldx rfl rfl BP (by rw [HOX.out, HSN.out]) HS1.out HSI.out ?_; intro wN BP kN; have ke : Keep [] w wN := ke.trans kN (fun b hb => by simp only [List.mem_singleton] at hb; subst hb; exact Or.inr hwp))
        refine hK.out _ _ ?_ (fun hHeld6 => ?_)
        · (try dsimp only); exact ⟨ke.cell g1 (by simp), ke.cell g0 (by simp), ke.cell g36 (by simp)⟩
        clear hK K
        try simp only [Act.put, List.setIfInBounds_toArray, List.set_cons_zero, List.set_cons_succ]
        refine wpAnyH_done (by kernel_rfl) ?_ _
        refine NoPanic.normal ?_
        (go_wp2_with fail; go_meet; case rel => exact ⟨p, rfl, BP, ke⟩)
    · (refine step_alloc26 rfl rfl ?_; intro p wN oldx hp HOX BP kn; have hwp : w.heap.size ≤ p := Nat.le_trans ke.size hp; have ke := ke.trans' kn; (first | (have Bq := Bq.keep kn (by simp)) | skip))
      refine hK.out _ _ ?_ (fun hHeld6 => ?_)
      · (try dsimp only); exact ⟨ke.cell g1 (by simp), ke.cell g0 (by simp), ke.cell g36 (by simp)⟩
      clear hK K
      try simp only [Act.put, List.setIfInBounds_toArray, List.set_cons_zero, List.set_cons_succ]
      refine wpAnyH_ready (rs := [18]) (by kernel_rfl) (by simp) ?_
      refine (AllReadyH.cons (o := ({ dst := some 38, op := .buildSlice 124 1 #[(0, .tmp 37)], type := 124, pos := "make.go:45", after := #[{ on := 17, ground := .data }], guard := none } : Oper)) rfl (fun K hK => ?_) AllReadyH.nil)
      (refine step_buildS rfl (.tmp 37) rfl (some ⟨tb, tof + k, none⟩) Z (tc - k) rfl ?_; intro q wN hq Bq kn; have ke := ke.trans' kn; (first | (have BP := BP.keep kn (by simp)) | skip))
      refine hK.out _ _ ?_ (fun hHeld7 => ?_)
      · (try dsimp only); exact ⟨ke.cell g1 (by simp), ke.cell g0 (by simp), ke.cell g36 (by simp)⟩
      clear hK K
      try simp only [Act.put, List.setIfInBounds_toArray, List.set_cons_zero, List.set_cons_succ]
      refine wpAnyH_ready (rs := [19]) (by kernel_rfl) (by simp) ?_
      refine (AllReadyH.cons (o := ({ dst := some 39, op := .call { callee := .value (.func 43), args := #[.tmp 24, .tmp 38], argTypes := #[3, 124] }, type := 26, pos := "make.go:45", after := #[{ on := 4, ground := .data }, { on := 18, ground := .data }], guard := none } : Oper)) rfl (fun K hK => ?_) AllReadyH.nil)
      go_simp
      (refine (OF.out _ q ke Bq).mono ?_; rintro e w' ⟨rfl, kn⟩; have ke := ke.trans' kn; (first | (have BP := BP.keep kn (by simp)) | skip))
      go_wp2_with fail
      refine hK.out _ _ ?_ (fun hHeld8 => ?_)
      · (try dsimp only); exact ⟨ke.cell g1 (by simp), ke.cell g0 (by simp), ke.cell g36 (by simp)⟩
      clear hK K
      try simp only [Act.put, List.setIfInBounds_toArray, List.set_cons_zero, List.set_cons_succ]
      refine wpAnyH_ready (rs := [21]) (by kernel_rfl) (by simp) ?_
      refine (AllReadyH.cons (o := ({ dst := none, op := .store 26 (.tmp 8) (.tmp 39), type := 0, pos := "make.go:45", after := #[{ on := 20, ground := .data }, { on := 19, ground := .data }, { on := 19, ground := .chain }, { on := 0, ground := .phase }, { on := 1, ground := .phase }, { on := 2, ground := .phase }, { on := 3, ground := .phase }, { on := 4, ground := .phase }, { on := 5, ground := .phase }, { on := 6, ground := .phase }, { on := 7, ground := .phase }, { on := 8, ground := .phase }, { on := 9, ground := .phase }, { on := 10, ground := .phase }, { on := 11, ground := .phase }, { on := 12, ground := .phase }, { on := 13, ground := .phase }, { on := 14, ground := .phase }, { on := 15, ground := .phase }, { on := 16, ground := .phase }, { on := 17, ground := .phase }, { on := 18, ground := .phase }, { on := 19, ground := .phase }, { on := 20, ground := .phase }], guard := none } : Oper)) rfl (fun K hK => ?_) AllReadyH.nil)
      (refine step_storeAll rfl 26 (.tmp 8) (.tmp 39) rfl p 26 (bs sb) oldx rfl rfl BP (by rw [HOX.out, HSN.out]) HS1.out HSI.out ?_; intro wN BP kN; have ke : Keep [] w wN := ke.trans kN (fun b hb => by simp only [List.mem_singleton] at hb; subst hb; exact Or.inr hwp))
      refine hK.out _ _ ?_ (fun hHeld9 => ?_)
      · (try dsimp only); exact ⟨ke.cell g1 (by simp), ke.cell g0 (by simp), ke.cell g36 (by simp)⟩
      clear hK K
      try simp only [Act.put, List.setIfInBounds_toArray, List.set_cons_zero, List.set_cons_succ]
      refine wpAnyH_done (by kernel_rfl) ?_ _
      refine NoPanic.normal ?_
      (go_wp2_with fail; go_meet; case rel => exact ⟨p, rfl, BP, ke⟩)
  case rest =>
    obtain ⟨p, rfl, BP, ke⟩ := hcut
    obtain ⟨N, hN, hso⟩ := size45
    have HN := Lib.hid hN
    clear hN hlk g37
    go_upto_region 6 with fail
    go_loopw [42] (fun v42 wr => ∃ j : Nat, j ≤ lm ∧ v42 = .int .i64 (j : Nat) ∧ Hid ((L.take j).find? (fun i => decide ((s.blocks[i]?).map (·.id) = some sb)) = none) ∧ Keep [] wc wr) (fun v42 _ => lm - (intOf v42).toNat)
    case atStart => exact ⟨0, by omega, rfl, Lib.hid rfl, Keep.refl _ _⟩
    case round =>
      obtain ⟨j, hj, rfl, HJ, kr⟩ := hrel
      have kwr := ke.trans' kr
      by_cases hlt : j < lm
      · have i1 : (j : Int) < lm := by omega
        have i3 : (0 : Int) ≤ j := by omega
        have hjL : j < L.length := by rw [HLM.out]; exact hlt
        obtain ⟨i, hi⟩ : ∃ i, L[j]? = some i := ⟨_, List.getElem?_eq_getElem hjL⟩
        have hin := HLT.out i (List.mem_of_getElem? hi)
        obtain ⟨lb, lo, hla, hlc⟩ : ∃ b off, la = some ⟨b, off, none⟩ ∧ wr.cell? ⟨b, off + j, none⟩ = some (.int .i64 (i : Nat)) := by
          rcases hrd with e | ⟨b, off, e, hc⟩
          · have := congrArg List.length e; rw [ints_len, List.length_nil] at this; omega
          · refine ⟨b, off, e, kwr.cell (hc j _ (by simp only [ints, List.getElem?_map, hi, Option.map_some])) (by simp)⟩
        obtain ⟨x, gb, off, ex, hax, rx⟩ := (HK.out.ws.keep kwr (by simp)).at hin
        have g35' := kwr.cell g35 (by simp)
        rw [hax] at g35'
        rw [HN.out] at rx
        have rxi := rangeAt_wid rx
        have rsb := rangeAt_keep (rangeAt_of_blk BP) kr (by simp)
        have hxl := x.li
        have heq : ∀ w, (Op.equalIn 10000 26 (.agg (bs x.id).toArray) (.agg (bs sb).toArray)).run Try.prog w = .ok (x.id == sb) w := fun w => eql_id 9998 x.id sb x.li HSL.out w
        have HXI := Lib.hid (hi26 x.li)
        have HPI : Hid (decide ((s.blocks[i]?).map (·.id) = some sb) = (x.id == sb)) := Lib.hid (by
          rw [ex]
          by_cases e : x.id = sb
          · simp [e]
          · have : (x.id == sb) = false := by simpa using e
            rw [this]; simp [e])
        obtain ⟨eb, hebE⟩ : ∃ b, (x.id == sb) = b := ⟨_, rfl⟩
        rw [hebE] at heq HPI
        obtain ⟨xi, hxiE⟩ : ∃ z, x.id = z := ⟨_, rfl⟩
        rw [hxiE] at heq HXI rxi
        have HI := Lib.hid hi
        have i5 : (0 : Int) ≤ i := by omega
        have i6 : (i : Int) < n := by omega
        subst hla hax
        clear hxl hebE ex rx hi hjL hxiE hrd
        go_upto_region 8 with fail
        have kg : Keep [] wr wr.drew := (Keep.refl [] wr).drew
        refine wp_region_noPanic ?_
        refine wp_region_held_drew (S := fun w' => w'.cell? ⟨M, 35, none⟩ = some (.slice (some ⟨gb, off, none⟩) n c) ∧ w'.rangeAt gb (off + i * N + 1) (bs xi) ∧ w'.rangeAt p 0 (bs sb)) (by kernel_rfl) ?_ (fun hHeld0 => ?_)
        · (try dsimp only); exact ⟨kg.cell g35' (by simp), rangeAt_keep rxi kg (by simp), rangeAt_keep rsb kg (by simp)⟩
        refine wpAnyH_take (i := 0) (oi := ({ dst := some 46, op := .move (.tmp 0), type := 78, pos := "make.go:47", after := #[], guard := none } : Oper)) (v := ?_) rfl (by kernel_rfl) (by kernel_rfl) (by kernel_rfl) (fun _ _ _ h => h) (Or.inl ⟨by rfl, ?_⟩) (by assumption) ?_
        rotate_left
        · (intro w hSw; (try dsimp only at hSw); go_simp; try with_reducible rfl)
        try simp only [Act.put, List.setIfInBounds_toArray, List.set_cons_zero, List.set_cons_succ]
        refine wpAnyH_take (i := 1) (oi := ({ dst := some 47, op := .nilCheck (.tmp 46), type := 0, pos := "make.go:47", after := #[{ on := 0, ground := .data }], guard := none } : Oper)) (v := ?_) rfl (by kernel_rfl) (by kernel_rfl) (by kernel_rfl) (fun _ _ _ h => h) (Or.inl ⟨by rfl, ?_⟩) (by assumption) ?_
        rotate_left
        · (intro w hSw; (try dsimp only at hSw); go_simp; try with_reducible rfl)
        try simp only [Act.put, List.setIfInBounds_toArray, List.set_cons_zero, List.set_cons_succ]
        refine wpAnyH_take (i := 2) (oi := ({ dst := some 48, op := .fieldAddr 81 (.tmp 47) 0, type := 0, pos := "make.go:47", after := #[{ on := 1, ground := .data }], guard := none } : Oper)) (v := ?_) rfl (by kernel_rfl) (by kernel_rfl) (by kernel_rfl) (fun _ _ _ h => h) (Or.inl ⟨by rfl, ?_⟩) (by assumption) ?_
        rotate_left
        · (intro w hSw; (try dsimp only at hSw); go_simp; try with_reducible rfl)
        try simp only [Act.put, List.setIfInBounds_toArray, List.set_cons_zero, List.set_cons_succ]
        refine wpAnyH_take (i := 3) (oi := ({ dst := some 49, op := .fieldAddr 29 (.tmp 48) 4, type := 0, pos := "make.go:47", after := #[{ on := 2, ground := .data }], guard := none } : Oper)) (v := ?_) rfl (by kernel_rfl) (by kernel_rfl) (by kernel_rfl) (fun _ _ _ h => h) (Or.inl ⟨by rfl, ?_⟩) (by assumption) ?_
        rotate_left
        · (intro w hSw; (try dsimp only at hSw); go_simp; try with_reducible rfl)
        try simp only [Act.put, List.setIfInBounds_toArray, List.set_cons_zero, List.set_cons_succ]
        refine wpAnyH_take (i := 4) (oi := ({ dst := some 50, op := .load 27 (.tmp 49), type := 27, pos := "make.go:47", after := #[{ on := 3, ground := .data }], guard := none } : Oper)) (v := ?_) rfl (by kernel_rfl) (by kernel_rfl) (by kernel_rfl) (fun _ _ _ h => h) (Or.inl ⟨by rfl, ?_⟩) (by assumption) ?_
        rotate_left
        · (intro w hSw; (try dsimp only at hSw); have q1 := hSw.1; go_simp; try with_reducible rfl)
        try simp only [Act.put, List.setIfInBounds_toArray, List.set_cons_zero, List.set_cons_succ]
        refine wpAnyH_take (i := 5) (oi := ({ dst := some 51, op := .move (.tmp 10), type := 3, pos := "make.go:47", after := #[], guard := none } : Oper)) (v := ?_) rfl (by kernel_rfl) (by kernel_rfl) (by kernel_rfl) (fun _ _ _ h => h) (Or.inl ⟨by rfl, ?_⟩) (by assumption) ?_
        rotate_left
        · (intro w hSw; (try dsimp only at hSw); go_simp; try with_reducible rfl)
        try simp only [Act.put, List.setIfInBounds_toArray, List.set_cons_zero, List.set_cons_succ]
        refine wpAnyH_take (i := 6) (oi := ({ dst := some 52, op := .indexAddr 27 (.tmp 50) (.tmp 51), type := 0, pos := "make.go:47", after := #[{ on := 4, ground := .data }, { on := 5, ground := .data }], guard := none } : Oper)) (v := ?_) rfl (by kernel_rfl) (by kernel_rfl) (by kernel_rfl) (fun _ _ _ h => h) (Or.inl ⟨by rfl, ?_⟩) (by assumption) ?_
        rotate_left
        · (intro w hSw; (try dsimp only at hSw); go_simp; try with_reducible rfl)
        try simp only [Act.put, List.setIfInBounds_toArray, List.set_cons_zero, List.set_cons_succ]
        refine wpAnyH_take (i := 7) (oi := ({ dst := some 53, op := .fieldAddr 45 (.tmp 52) 1, type := 0, pos := "make.go:47", after := #[{ on := 6, ground := .data }], guard := none } : Oper)) (v := ?_) rfl (by kernel_rfl) (by kernel_rfl) (by kernel_rfl) (fun _ _ _ h => h) (Or.inl ⟨by rfl, ?_⟩) (by assumption) ?_
        rotate_left
        · (intro w hSw; (try dsimp only at hSw); go_simp; try with_reducible rfl)
        try simp only [Act.put, List.setIfInBounds_toArray, List.set_cons_zero, List.set_cons_succ]
        refine wpAnyH_take (i := 8) (oi := ({ dst := some 54, op := .load 26 (.tmp 53), type := 26, pos := "make.go:47", after := #[{ on := 7, ground := .data }], guard := none } : Oper)) (v := .agg (List.toArray (bs xi))) rfl (by kernel_rfl) (by kernel_rfl) (by kernel_rfl) (fun _ _ _ h => h) (yieldsIf_load_mid (by rfl) _ _ rfl _ _ rfl (bs xi) _ (fun w hSw => hSw.2.1) Try.underlying26 rfl HXI.out) (by assumption) ?_
        try simp only [Act.put, List.setIfInBounds_toArray, List.set_cons_zero, List.set_cons_succ]
        refine wpAnyH_take (i := 9) (oi := ({ dst := some 55, op := .load 26 (.tmp 8), type := 26, pos := "make.go:47", after := #[], guard := none } : Oper)) (v := .agg (List.toArray (bs sb))) rfl (by kernel_rfl) (by kernel_rfl) (by kernel_rfl) (fun _ _ _ h => h) (yieldsIf_load_mid (by rfl) _ _ rfl _ _ rfl (bs sb) _ (fun w hSw => hSw.2.2) Try.underlying26 rfl HSI.out) (by assumption) ?_
        try simp only [Act.put, List.setIfInBounds_toArray, List.set_cons_zero, List.set_cons_succ]
        refine wpAnyH_take (i := 10) (oi := ({ dst := some 56, op := .binOp .eql 26 (.tmp 54) (.tmp 55) 26, type := 4, pos := "make.go:47", after := #[{ on := 8, ground := .data }, { on := 9, ground := .data }], guard := none } : Oper)) (v := ?_) rfl (by kernel_rfl) (by kernel_rfl) (by kernel_rfl) (fun _ _ _ h => h) (Or.inl ⟨by rfl, ?_⟩) (by assumption) ?_
        rotate_left
        · (intro w hSw; (try dsimp only at hSw); go_simp; try with_reducible rfl)
        try simp only [Act.put, List.setIfInBounds_toArray, List.set_cons_zero, List.set_cons_succ]
        refine wpAnyH_done (by kernel_rfl) ?_ _
        refine NoPanic.normal ?_
        skip
        cases eb with
        | true =>
          have HR := Lib.hid (show firstI s d k sum = (i : Nat) by rw [firstI, HF2.out, find_at HJ.out HI.out HPI.out])
          go_wp2_with fail
          go_returns
          exact ⟨by rw [HR.out]; rfl, kwr.trans' kg⟩
        | false =>
          have HR := Lib.hid (find_more HJ.out HI.out HPI.out)
          go_wp2_with fail
          exact ⟨⟨j + 1, by omega, by go_num, HR, kr.trans' kg⟩, by simp [intOf]; omega⟩
      · obtain rfl : j = lm := by omega
        have i2 : ¬ (j : Int) < j := by omega
        have HR := Lib.hid (show firstI s d k sum = -1 by rw [firstI, HF2.out, find_end (by rw [HLM.out]; exact HJ.out)])
        go_wp2_with fail
        go_returns
        exact ⟨by rw [HR.out]; rfl, kwr⟩
end Go.Proofs.Ytpocegdlobnhaaa
end
section
/- next: the walk. -/
set_option linter.unusedVariables false
set_option linter.unusedSimpArgs false
set_option maxRecDepth 100000
namespace Go.Proofs.Ytpocegdlobnhaaa
open Go.RowKit Go.Shelf
open Rol (WinAt winCount window sumOf)
attribute [local go_sem] Oper.semAt_some
/-- What fits at a place. -/
def hitI (s : Sg) (d : List UInt8) (k : Nat) : Int := firstI s d k (sumOf (winF d s.size.toNat k))
/-- The first place from p on at which a window fits, and the block. -/
def NextIs (s : Sg) (d : List UInt8) (p : Nat) (q : Nat) (i : Int) (ok : Bool) : Prop :=
  (ok = true ∧ p ≤ q ∧ q + s.size.toNat ≤ d.length ∧ hitI s d q = i ∧ 0 ≤ i ∧ ∀ k, p ≤ k → k < q → hitI s d k < 0) ∨
  (ok = false ∧ q = 0 ∧ i = 0 ∧ ∀ k, p ≤ k → k + s.size.toNat ≤ d.length → hitI s d k < 0)
theorem window_drop (d : List UInt8) (p z k : Nat) : window (d.drop p) (z : Nat) k = winF d z (p + k) := by
  rw [window, winF, List.drop_drop, Int.toNat_natCast]
def NxG {len z : Nat} (f : Nat → Int) (pre : List (At len z)) : Prop := ∀ x ∈ pre, f x.1 < 0
def NxX {len z : Nat} (f : Nat → Int) (p p4 p5 p6 : Nat) (pre : List (At len z)) (W : World) : Prop := ∃ (pre' : List (At len z)) (x : At len z), pre = pre' ++ [x] ∧ NxG f pre' ∧ 0 ≤ f x.1 ∧ Blk W p4 #[.int .i64 ((p + x.1 : Nat) : Int)] 3 ∧ Blk W p5 #[.int .i64 (f x.1)] 3 ∧ Blk W p6 #[.bool true] 4
set_option maxHeartbeats 8000000 in
theorem next_any (M : Nat) (s : Sg) (a : Option Addr) (n c : Nat) (ta : Option Addr) (tn tc : Nat) (d : List UInt8) (r V Z p : Nat) (w : World) (h : MkAt w M s a n c ta tn tc d r) (hV : s.width = V) (hZ : s.size = Z) (hV1 : 1 ≤ V ∧ V ≤ 32) (hZ1 : 16 ≤ Z ∧ Z ≤ 4096) (hp : p < tn) (htn : tn ≤ 131072) (hbn : n ≤ 2048) :
    Calls Try.prog 77 #[.pointer (some ⟨M, 0, none⟩), .int .i64 (p : Nat)] w fun e w' => ∃ (q : Nat) (i : Int) (ok : Bool), e = .returned (.tuple #[.int .i64 (q : Nat), .int .i64 i, .bool ok]) ∧ Hid (NextIs s d p q i ok) ∧ Keep [] w w' := by
  have hzN : s.size.toNat = Z := by rw [hZ]; simp
  have hl := h.tg.hlen
  have hle := h.tg.hle
  obtain ⟨tb, tof, rfl, hIn⟩ := in_part h.tg (o := p) (m := tn - p) (by omega) (by omega)
  rw [List.take_of_length_le (by rw [List.length_drop]; omega)] at hIn
  have B2 : Blk (((((w.alloc (.cells #[.pointer (some ⟨M, 0, none⟩)] 78)).alloc (.cells #[.int .i64 (p : Nat)] 3)).alloc (.cells #[.int .i64 0] 3)).alloc (.cells #[.int .i64 0] 3)).alloc (.cells #[.bool false] 4)) w.heap.size #[.pointer (some ⟨M, 0, none⟩)] 78 := ((((Blk.new _ _ _).alloc _).alloc _).alloc _).alloc _
  have B3 : Blk (((((w.alloc (.cells #[.pointer (some ⟨M, 0, none⟩)] 78)).alloc (.cells #[.int .i64 (p : Nat)] 3)).alloc (.cells #[.int .i64 0] 3)).alloc (.cells #[.int .i64 0] 3)).alloc (.cells #[.bool false] 4)) (w.heap.size + 1) #[.int .i64 (p : Nat)] 3 := (((Blk.new' _ _ _ (by simp)).alloc _).alloc _).alloc _
  have B4 : Blk (((((w.alloc (.cells #[.pointer (some ⟨M, 0, none⟩)] 78)).alloc (.cells #[.int .i64 (p : Nat)] 3)).alloc (.cells #[.int .i64 0] 3)).alloc (.cells #[.int .i64 0] 3)).alloc (.cells #[.bool false] 4)) (w.heap.size + 1 + 1) #[.int .i64 0] 3 := ((Blk.new' _ _ _ (by simp)).alloc _).alloc _
  have B5 : Blk (((((w.alloc (.cells #[.pointer (some ⟨M, 0, none⟩)] 78)).alloc (.cells #[.int .i64 (p : Nat)] 3)).alloc (.cells #[.int .i64 0] 3)).alloc (.cells #[.int .i64 0] 3)).alloc (.cells #[.bool false] 4)) (w.heap.size + 1 + 1 + 1) #[.int .i64 0] 3 := (Blk.new' _ _ _ (by simp)).alloc _
  have B6 : Blk (((((w.alloc (.cells #[.pointer (some ⟨M, 0, none⟩)] 78)).alloc (.cells #[.int .i64 (p : Nat)] 3)).alloc (.cells #[.int .i64 0] 3)).alloc (.cells #[.int .i64 0] 3)).alloc (.cells #[.bool false] 4)) (w.heap.size + 1 + 1 + 1 + 1) #[.bool false] 4 := Blk.new' _ _ _ (by simp)
  have k0 : Keep [] w (((((w.alloc (.cells #[.pointer (some ⟨M, 0, none⟩)] 78)).alloc (.cells #[.int .i64 (p : Nat)] 3)).alloc (.cells #[.int .i64 0] 3)).alloc (.cells #[.int .i64 0] 3)).alloc (.cells #[.bool false] 4)) := (((((Keep.refl [] w).alloc _).alloc _).alloc _).alloc _).alloc _
  obtain ⟨W, hW⟩ : ∃ W, (((((w.alloc (.cells #[.pointer (some ⟨M, 0, none⟩)] 78)).alloc (.cells #[.int .i64 (p : Nat)] 3)).alloc (.cells #[.int .i64 0] 3)).alloc (.cells #[.int .i64 0] 3)).alloc (.cells #[.bool false] 4)) = W := ⟨_, rfl⟩
  obtain ⟨p2, hp2⟩ : ∃ x, w.heap.size = x := ⟨_, rfl⟩
  obtain ⟨p3, hp3⟩ : ∃ x, w.heap.size + 1 = x := ⟨_, rfl⟩
  obtain ⟨p4, hp4⟩ : ∃ x, w.heap.size + 1 + 1 = x := ⟨_, rfl⟩
  obtain ⟨p5, hp5⟩ : ∃ x, w.heap.size + 1 + 1 + 1 = x := ⟨_, rfl⟩
  obtain ⟨p6, hp6⟩ : ∃ x, w.heap.size + 1 + 1 + 1 + 1 = x := ⟨_, rfl⟩
  rw [hW] at B2 B3 B4 B5 B6 k0
  rw [hp2] at B2
  rw [hp3] at B3
  rw [hp4] at B4
  rw [hp5] at B5
  rw [hp6] at B6
  have HN := Lib.hid (show w.heap.size ≤ p4 ∧ w.heap.size ≤ p5 ∧ w.heap.size ≤ p6 ∧ p4 ≠ p5 ∧ p4 ≠ p6 ∧ p5 ≠ p6 by omega)
  have HW := Lib.hid hW
  have HP := Lib.hid (And.intro hp2 (And.intro hp3 (And.intro hp4 (And.intro hp5 hp6))))
  have HK := Lib.hid (h.keep k0)
  have HIN := Lib.hid (hIn.keep k0 (by simp))
  have HZN := Lib.hid hzN
  have HL := Lib.hid hl
  have HV := Lib.hid hV
  have HZ := Lib.hid hZ
  have j1 : (p : Int) ≤ tn := by omega
  have j2 : (0 : Int) ≤ p := by omega
  have j6 : ¬ tc = p := by omega
  have j7 : (p : Int) ≤ tc := by omega
  clear hW hp2 hp3 hp4 hp5 hp6 h hIn hzN hl hV hZ
  refine (callsIn_wide (n := 9)).1 ?_
  refine callsIn_of_wp_marks Try.func77 rfl trivial ?_ rfl
  simp only [Try.ntmps77, List.size_toArray, List.length_cons, List.length_nil, Nat.reduceAdd, Nat.reduceSub, Array.replicate_succ, Array.replicate_zero, List.push_toArray, List.append_toArray, List.nil_append, List.cons_append]
  gi_wp2
  rw [HP.out.2.2.2.2, HP.out.2.2.2.1, HP.out.2.2.1, HP.out.2.1, HP.out.1, HW.out]
  refine wpIn_wide.2 ?_
  have hM36 := HK.out.c36
  have hM1 := HK.out.c1
  rw [HZ.out] at hM1
  have b2 : W.cell? ⟨p2, 0, none⟩ = some (.pointer (some ⟨M, 0, none⟩)) := B2.cell (i := 0) rfl
  have b3 : W.cell? ⟨p3, 0, none⟩ = some (.int .i64 (p : Nat)) := B3.cell (i := 0) rfl
  have ke : Keep [] W W.drew := (Keep.refl [] W).drew
  have WM := Lib.hid (fun W' k' => by
    have hi := HIN.out.keep k' (by simp)
    exact Rol.windowsMake_any (some ⟨tb, tof + p, none⟩) (tn - p) (tc - p) (Z : Nat) (d.drop p) W' hi.hlen (by omega) hi.rd hi.hnil : ∀ W', Keep [] W W' → Calls Try.prog 104 #[.slice (some ⟨tb, tof + p, none⟩) (tn - p) (tc - p), .int .i64 (Z : Nat)] W' fun e w' => ∃ ps pd gd, e = .returned (.func (.func 119) #[] #[.pointer (some ⟨ps, 0, none⟩), .pointer (some ⟨pd, 0, none⟩)]) ∧ WinAt w' ps pd gd (Z : Nat) (d.drop p) ∧ W'.heap.size ≤ ps ∧ W'.heap.size ≤ pd ∧ W'.heap.size ≤ gd ∧ (ps < w'.heap.size ∧ pd < w'.heap.size ∧ gd < w'.heap.size) ∧ Keep [] W' w')
  refine wp_region_noPanic ?_
  refine wp_region_held_drew (S := fun w' => w'.cell? ⟨p2, 0, none⟩ = some (.pointer (some ⟨M, 0, none⟩)) ∧ w'.cell? ⟨p3, 0, none⟩ = some (.int .i64 (p : Nat)) ∧ w'.cell? ⟨M, 36, none⟩ = some (.slice (some ⟨tb, tof, none⟩) tn tc) ∧ w'.cell? ⟨M, 1, none⟩ = some (.int .i64 (Z : Nat))) (by kernel_rfl) ?_ (fun hHeld0 => ?_)
  · (try dsimp only); exact ⟨ke.cell b2 (by simp), ke.cell b3 (by simp), ke.cell hM36 (by simp), ke.cell hM1 (by simp)⟩
  refine wpAnyH_take (i := 0) (oi := ({ dst := some 10, op := .load 78 (.tmp 2), type := 78, pos := "make.go:56", after := #[], guard := none } : Oper)) (v := ?_) rfl (by kernel_rfl) (by kernel_rfl) (by kernel_rfl) (fun _ _ _ h => h) (Or.inl ⟨by rfl, ?_⟩) (by assumption) ?_
  rotate_left
  · (intro w hSw; (try dsimp only at hSw); have q1 := hSw.1; go_simp; try with_reducible rfl)
  try simp only [Act.put, List.setIfInBounds_toArray, List.set_cons_zero, List.set_cons_succ]
  refine wpAnyH_take (i := 1) (oi := ({ dst := some 11, op := .nilCheck (.tmp 10), type := 0, pos := "make.go:56", after := #[{ on := 0, ground := .data }], guard := none } : Oper)) (v := ?_) rfl (by kernel_rfl) (by kernel_rfl) (by kernel_rfl) (fun _ _ _ h => h) (Or.inl ⟨by rfl, ?_⟩) (by assumption) ?_
  rotate_left
  · (intro w hSw; (try dsimp only at hSw); go_simp; try with_reducible rfl)
  try simp only [Act.put, List.setIfInBounds_toArray, List.set_cons_zero, List.set_cons_succ]
  refine wpAnyH_take (i := 2) (oi := ({ dst := some 12, op := .fieldAddr 81 (.tmp 11) 1, type := 0, pos := "make.go:56", after := #[{ on := 1, ground := .data }], guard := none } : Oper)) (v := ?_) rfl (by kernel_rfl) (by kernel_rfl) (by kernel_rfl) (fun _ _ _ h => h) (Or.inl ⟨by rfl, ?_⟩) (by assumption) ?_
  rotate_left
  · (intro w hSw; (try dsimp only at hSw); go_simp; try with_reducible rfl)
  try simp only [Act.put, List.setIfInBounds_toArray, List.set_cons_zero, List.set_cons_succ]
  refine wpAnyH_take (i := 3) (oi := ({ dst := some 13, op := .load 22 (.tmp 12), type := 22, pos := "make.go:56", after := #[{ on := 2, ground := .data }], guard := none } : Oper)) (v := ?_) rfl (by kernel_rfl) (by kernel_rfl) (by kernel_rfl) (fun _ _ _ h => h) (Or.inl ⟨by rfl, ?_⟩) (by assumption) ?_
  rotate_left
  · (intro w hSw; (try dsimp only at hSw); have q1 := hSw.2.2.1; go_simp; try with_reducible rfl)
  try simp only [Act.put, List.setIfInBounds_toArray, List.set_cons_zero, List.set_cons_succ]
  refine wpAnyH_take (i := 4) (oi := ({ dst := some 14, op := .load 3 (.tmp 3), type := 3, pos := "make.go:56", after := #[], guard := none } : Oper)) (v := ?_) rfl (by kernel_rfl) (by kernel_rfl) (by kernel_rfl) (fun _ _ _ h => h) (Or.inl ⟨by rfl, ?_⟩) (by assumption) ?_
  rotate_left
  · (intro w hSw; (try dsimp only at hSw); have q1 := hSw.2.1; go_simp; try with_reducible rfl)
  try simp only [Act.put, List.setIfInBounds_toArray, List.set_cons_zero, List.set_cons_succ]
  refine wpAnyH_take (i := 5) (oi := ({ dst := some 15, op := .slice 22 (.tmp 13) (some (.tmp 14)) none none, type := 22, pos := "make.go:56", after := #[{ on := 3, ground := .data }, { on := 4, ground := .data }], guard := none } : Oper)) (v := ?_) rfl (by kernel_rfl) (by kernel_rfl) (by kernel_rfl) (fun _ _ _ h => h) (Or.inl ⟨by rfl, ?_⟩) (by assumption) ?_
  rotate_left
  · (intro w hSw; (try dsimp only at hSw); go_simp; try with_reducible rfl)
  try simp only [Act.put, List.setIfInBounds_toArray, List.set_cons_zero, List.set_cons_succ]
  refine wpAnyH_take (i := 6) (oi := ({ dst := some 16, op := .load 78 (.tmp 2), type := 78, pos := "make.go:56", after := #[], guard := none } : Oper)) (v := ?_) rfl (by kernel_rfl) (by kernel_rfl) (by kernel_rfl) (fun _ _ _ h => h) (Or.inl ⟨by rfl, ?_⟩) (by assumption) ?_
  rotate_left
  · (intro w hSw; (try dsimp only at hSw); have q1 := hSw.1; go_simp; try with_reducible rfl)
  try simp only [Act.put, List.setIfInBounds_toArray, List.set_cons_zero, List.set_cons_succ]
  refine wpAnyH_take (i := 7) (oi := ({ dst := some 17, op := .nilCheck (.tmp 16), type := 0, pos := "make.go:56", after := #[{ on := 6, ground := .data }], guard := none } : Oper)) (v := ?_) rfl (by kernel_rfl) (by kernel_rfl) (by kernel_rfl) (fun _ _ _ h => h) (Or.inl ⟨by rfl, ?_⟩) (by assumption) ?_
  rotate_left
  · (intro w hSw; (try dsimp only at hSw); go_simp; try with_reducible rfl)
  try simp only [Act.put, List.setIfInBounds_toArray, List.set_cons_zero, List.set_cons_succ]
  refine wpAnyH_take (i := 8) (oi := ({ dst := some 18, op := .fieldAddr 81 (.tmp 17) 0, type := 0, pos := "make.go:56", after := #[{ on := 7, ground := .data }], guard := none } : Oper)) (v := ?_) rfl (by kernel_rfl) (by kernel_rfl) (by kernel_rfl) (fun _ _ _ h => h) (Or.inl ⟨by rfl, ?_⟩) (by assumption) ?_
  rotate_left
  · (intro w hSw; (try dsimp only at hSw); go_simp; try with_reducible rfl)
  try simp only [Act.put, List.setIfInBounds_toArray, List.set_cons_zero, List.set_cons_succ]
  refine wpAnyH_take (i := 9) (oi := ({ dst := some 19, op := .fieldAddr 29 (.tmp 18) 1, type := 0, pos := "make.go:56", after := #[{ on := 8, ground := .data }], guard := none } : Oper)) (v := ?_) rfl (by kernel_rfl) (by kernel_rfl) (by kernel_rfl) (fun _ _ _ h => h) (Or.inl ⟨by rfl, ?_⟩) (by assumption) ?_
  rotate_left
  · (intro w hSw; (try dsimp only at hSw); go_simp; try with_reducible rfl)
  try simp only [Act.put, List.setIfInBounds_toArray, List.set_cons_zero, List.set_cons_succ]
  refine wpAnyH_take (i := 10) (oi := ({ dst := some 20, op := .load 3 (.tmp 19), type := 3, pos := "make.go:56", after := #[{ on := 9, ground := .data }], guard := none } : Oper)) (v := ?_) rfl (by kernel_rfl) (by kernel_rfl) (by kernel_rfl) (fun _ _ _ h => h) (Or.inl ⟨by rfl, ?_⟩) (by assumption) ?_
  rotate_left
  · (intro w hSw; (try dsimp only at hSw); have q1 := hSw.2.2.2; go_simp; try with_reducible rfl)
  try simp only [Act.put, List.setIfInBounds_toArray, List.set_cons_zero, List.set_cons_succ]
  refine wpAnyH_ready (rs := [11]) (by kernel_rfl) (by simp) ?_
  refine (AllReadyH.cons (o := ({ dst := some 21, op := .call { callee := .value (.func 104), args := #[.tmp 15, .tmp 20], argTypes := #[22, 3] }, type := 164, pos := "make.go:56", after := #[{ on := 5, ground := .data }, { on := 10, ground := .data }], guard := none } : Oper)) rfl (fun K hK => ?_) AllReadyH.nil)
  go_simp
  (refine (WM.out _ ke).mono ?_; rintro e w1 ⟨ps, pd, gd, rfl, hat, hps0, hpd0, hgd0, hlt, kn⟩; have ke := ke.trans' kn)
  go_wp2_with fail
  refine hK.out _ _ ?_ (fun hHeld1 => ?_)
  · (try dsimp only); exact ⟨ke.cell b2 (by simp), ke.cell b3 (by simp), ke.cell hM36 (by simp), ke.cell hM1 (by simp)⟩
  clear hK K
  try simp only [Act.put, List.setIfInBounds_toArray, List.set_cons_zero, List.set_cons_succ]
  refine wpAnyH_done (by kernel_rfl) ?_ _
  refine NoPanic.normal ?_
  skip
  gi_wp2
  have hwW : w.heap.size ≤ W.heap.size := k0.size
  have hkk := ke.size
  have hB4 := B4.keep ke (by simp)
  have hB5 := B5.keep ke (by simp)
  have hB6 := B6.keep ke (by simp)
  have hB2 := B2.keep ke (by simp)
  have hB3 := B3.keep ke (by simp)
  have HBB := Lib.hid (And.intro hB4 (And.intro hB5 hB6))
  have HK1 := Lib.hid (HK.out.keep ke)
  have KE := Lib.hid (k0.trans' ke)
  have hseq := windows_seq ps pd gd Z (d.drop p) w1 hat hlt (by omega) (by omega)
  obtain ⟨hitP, hhit⟩ : ∃ f : Nat → Int, (fun k => hitI s d (p + k)) = f := ⟨_, rfl⟩
  have HHIT := Lib.hid hhit
  have hdl : (d.drop p).length = tn - p := by rw [List.length_drop, HL.out]
  have HDL := Lib.hid hdl
  have FST := Lib.hid (fun (W' : World) (k' : Keep [] w1 W') (k : Nat) (hk : k + Z ≤ (d.drop p).length) => by
    have := first_any M s a n c (some ⟨tb, tof, none⟩) tn tc d r V Z (p + k) (sumOf (window (d.drop p) (Z : Nat) k)) W' (HK1.out.keep k') HV.out HZ.out hV1 hZ1 (by rw [HDL.out] at hk; omega) htn hbn
    rw [show firstI s d (p + k) (sumOf (window (d.drop p) (Z : Nat) k)) = hitP k by rw [← hhit]; simp only [hitI, window_drop, HZN.out]] at this
    exact this : ∀ W', Keep [] w1 W' → ∀ k, k + Z ≤ (d.drop p).length → Calls Try.prog 105 #[.pointer (some ⟨M, 0, none⟩), .int .i64 ((p + k : Nat) : Int), .int .i64 (sumOf (window (d.drop p) (Z : Nat) k))] W' fun e w' => e = .returned (.int .i64 (hitP k)) ∧ Keep [] W' w')
  clear hhit hdl hat b2 b3 hM36 hM1 hHeld0 hHeld1
  refine range_law (gf := 119) (lb := #[.pointer (some ⟨ps, 0, none⟩), .pointer (some ⟨pd, 0, none⟩)]) rfl (enters_of Try.func119 (by kernel_rfl) rfl) hseq (fun _ => rfl)
    [p4, p5, p6] (by have := hB4.lt; have := hB5.lt; have := hB6.lt; simp; omega)
    (NxG hitP) (NxX hitP p p4 p5 p6)
    (fun pre A B ⟨pre', x, e1, e2, e3, e4, e5, e6⟩ hAB => ⟨pre', x, e1, e2, e3, e4.of_eq (hAB p4 hB4.lt), e5.of_eq (hAB p5 hB5.lt), e6.of_eq (hAB p6 hB6.lt)⟩)
    (by intro x hx; cases hx) ?a1 ?assign ?body ?done ?stop
  case assign =>
    intro l x W' K hK
    gi_wp2
    exact hK
  case body =>
    intro l pre x W' kx hG
    have y2 : W'.cell? ⟨p2, 0, none⟩ = some (.pointer (some ⟨M, 0, none⟩)) := (hB2.keep kx (by simp)).cell (i := 0) rfl
    have y3 : W'.cell? ⟨p3, 0, none⟩ = some (.int .i64 (p : Nat)) := (hB3.keep kx (by simp)).cell (i := 0) rfl
    obtain ⟨k, hk⟩ := x
    have hk2 : k + Z ≤ tn - p := by rw [← HDL.out]; exact hk
    have u0 : IntKind.i64.wrap ((p : Int) + k) = (p : Int) + k := IntWalk.i64_in _ (by omega)
    have u1 : ((p + k : Nat) : Int) = (p : Int) + k := by push_cast; rfl
    have CALL := FST.out W' kx k hk
    rw [u1] at CALL
    have HCALL := Lib.hid CALL
    have HU := Lib.hid u1
    obtain ⟨hv, hhv⟩ : ∃ v, hitP k = v := ⟨_, rfl⟩
    rw [hhv] at HCALL
    have HHV := Lib.hid hhv
    have HG := Lib.hid hG
    obtain ⟨sw, hsw⟩ : ∃ v, sumOf (window (d.drop p) (Z : Nat) k) = v := ⟨_, rfl⟩
    rw [hsw] at HCALL
    have z4 := hB4.keep kx (by simp)
    have z5 := hB5.keep kx (by simp)
    have z6 := hB6.keep kx (by simp)
    clear hhv CALL u1 hG
    simp only [encW, hsw]
    clear hsw
    by_cases hpos : 0 ≤ hv
    · have d1 : decide ((0 : Int) ≤ hv) = true := decide_eq_true hpos
      obtain ⟨-, -, -, n1, n2, n3⟩ := HN.out
      have n1' := n1.symm
      have n2' := n2.symm
      have n3' := n3.symm
      gi_wp2_with (first
        | (refine ⟨trivial, ?_⟩; gi_at_call 105; refine (CallsIn.inRound l (callsIn_wide.2 HCALL.out)).mono ?_; rintro e w5 ⟨rfl, k5⟩; have y3' : w5.cell? ⟨p3, 0, none⟩ = some (.int .i64 (p : Nat)) := k5.cell y3 (by simp); have v4 := (z4.keep k5 (by simp)); have v5 := (z5.keep k5 (by simp)); have v6 := (z6.keep k5 (by simp)); have q4 := v4.cell (i := 0) rfl; have q5 := v5.cell (i := 0) rfl; have q6 := v6.cell (i := 0) rfl; have f4 := v4.free (i := 0); have f5 := v5.free (i := 0); have f6 := v6.free (i := 0))
        | fail)
      have s4 := v4.set 0 (.int .i64 ((p : Int) + k))
      have s5 := (v5.setOther (a := ⟨p4, 0, none⟩) HN.out.2.2.2.1.symm (.int .i64 ((p : Int) + k))).set 0 (.int .i64 hv)
      have s6 := ((v6.setOther (a := ⟨p4, 0, none⟩) HN.out.2.2.2.2.1.symm (.int .i64 ((p : Int) + k))).setOther (a := ⟨p5, 0, none⟩) HN.out.2.2.2.2.2.symm (.int .i64 hv)).set 0 (.bool true)
      have s4' := (s4.setOther (a := ⟨p5, 0, none⟩) HN.out.2.2.2.1 (.int .i64 hv)).setOther (a := ⟨p6, 0, none⟩) HN.out.2.2.2.2.1 (.bool true)
      have s5' := s5.setOther (a := ⟨p6, 0, none⟩) HN.out.2.2.2.2.2 (.bool true)
      have kk : Keep [p4, p5, p6] W' (((w5.setCell ⟨p4, 0, none⟩ (.int .i64 ((p : Int) + k))).setCell ⟨p5, 0, none⟩ (.int .i64 hv)).setCell ⟨p6, 0, none⟩ (.bool true)) := (((k5.mono (T := [p4, p5, p6]) (by simp)).set (Or.inl (by simp)) _).set (Or.inl (by simp)) _).set (Or.inl (by simp)) _
      exact ⟨kk, pre, ⟨k, hk⟩, rfl, HG.out, by rw [HHV.out]; exact hpos, by rw [HU.out]; exact s4', by rw [HHV.out]; exact s5', s6⟩
    · have d1 : decide ((0 : Int) ≤ hv) = false := decide_eq_false hpos
      gi_wp2_with (first
        | (refine ⟨trivial, ?_⟩; gi_at_call 105; refine (CallsIn.inRound l (callsIn_wide.2 HCALL.out)).mono ?_; rintro e w5 ⟨rfl, k5⟩)
        | fail)
      exact ⟨k5, fun y hy => by
        rcases List.mem_append.1 hy with h | h
        · exact HG.out y h
        · obtain rfl : y = ⟨k, hk⟩ := by simpa using h
          rw [HHV.out]; omega⟩
  case done =>
    intro D xs W' hD hS hG kx hK
    obtain ⟨-, -, -, n1, n2, n3⟩ := HN.out
    have n1' := n1.symm
    have n2' := n2.symm
    have n3' := n3.symm
    have v4 := hB4.keep kx (by simp)
    have v5 := hB5.keep kx (by simp)
    have v6 := hB6.keep kx (by simp)
    have q4 := v4.cell (i := 0) rfl
    have q5 := v5.cell (i := 0) rfl
    have q6 := v6.cell (i := 0) rfl
    have f4 := v4.free (i := 0)
    have f5 := v5.free (i := 0)
    have f6 := v6.free (i := 0)
    have hp4D := hB4.lt
    have hp5D := hB5.lt
    have hp6D := hB6.lt
    have HRES := Lib.hid (show NextIs s d p 0 0 false from Or.inr ⟨rfl, rfl, rfl, fun k h1 h2 => by
      have hz := HZN.out
      have hdl := HDL.out
      have hlL := HL.out
      rw [hz] at h2
      have hin : k - p ∈ xs.map (·.1) := by
        rw [hS, List.mem_range, winCount, if_pos (by omega)]; omega
      obtain ⟨y, hy, hyk⟩ := List.mem_map.1 hin
      have := hG y hy
      rw [← HHIT.out] at this
      rw [hyk] at this
      simpa [show p + (k - p) = k by omega] using this⟩)
    clear hS hG
    gi_wp2
    have s4 := v4.set 0 (.int .i64 0)
    have s5 := (v5.setOther (a := ⟨p4, 0, none⟩) n1' (.int .i64 0)).set 0 (.int .i64 0)
    have s6 := ((v6.setOther (a := ⟨p4, 0, none⟩) n2' (.int .i64 0)).setOther (a := ⟨p5, 0, none⟩) n3' (.int .i64 0)).set 0 (.bool false)
    have s4' := (s4.setOther (a := ⟨p5, 0, none⟩) n1 (.int .i64 0)).setOther (a := ⟨p6, 0, none⟩) n2 (.bool false)
    have s5' := s5.setOther (a := ⟨p6, 0, none⟩) n3 (.bool false)
    have kk : Keep [p4, p5, p6] W' (((W'.setCell ⟨p4, 0, none⟩ (.int .i64 0)).setCell ⟨p5, 0, none⟩ (.int .i64 0)).setCell ⟨p6, 0, none⟩ (.bool false)) := ((((Keep.refl [] W').mono (T := [p4, p5, p6]) (by simp)).set (Or.inl (by simp)) _).set (Or.inl (by simp)) _).set (Or.inl (by simp)) _
    have hKD : (((W'.setCell ⟨p4, 0, none⟩ (.int .i64 0)).setCell ⟨p5, 0, none⟩ (.int .i64 0)).setCell ⟨p6, 0, none⟩ (.bool false)).heap[D]? = some (.deferred (some [])) := by
      rw [kk.block D (Array.getElem?_eq_some_iff.1 hK).1 (by simp; omega)]; exact hK
    generalize (((W'.setCell ⟨p4, 0, none⟩ (.int .i64 0)).setCell ⟨p5, 0, none⟩ (.int .i64 0)).setCell ⟨p6, 0, none⟩ (.bool false)) = W6 at s4' s5' s6 kk hKD ⊢
    refine ⟨by simp, .inl ⟨_, _, rfl, run_takeDeferred hKD, ?_⟩⟩
    have kD := keep_put (l := D) (.deferred none) (Keep.refl [D] W6) (Or.inl (by simp))
    have e4 := (s4'.keep kD (by simp; omega)).cell (i := 0) rfl
    have e5 := (s5'.keep kD (by simp; omega)).cell (i := 0) rfl
    have e6 := (s6.keep kD (by simp; omega)).cell (i := 0) rfl
    have hkw : Keep [] w (W6.putObj D (.deferred none)) := ((KE.out.trans' kx).trans kk (fun b hb => by simp only [List.mem_cons, List.not_mem_nil, or_false] at hb; rcases hb with rfl | rfl | rfl; exact Or.inr HN.out.1; exact Or.inr HN.out.2.1; exact Or.inr HN.out.2.2.1)).trans kD (fun b hb => by simp only [List.mem_singleton] at hb; subst hb; exact Or.inr (by omega))
    refine ⟨_, ?_, 0, 0, Or.inl ⟨rfl, HRES, hkw⟩⟩
    simp [results, Try.f77, go_sem, e4, e5, e6]
  case stop =>
    intro D pre W' hD hS kx hX hK
    obtain ⟨pre', x, rfl, hG, hpos, s4, s5, s6⟩ := hX
    obtain ⟨m, hm, hmr⟩ := hS
    obtain ⟨k, hk⟩ := x
    have hp4D := hB4.lt
    have hp5D := hB5.lt
    have hp6D := hB6.lt
    rw [List.map_append, List.range_succ] at hmr
    have hmr2 := List.append_inj' hmr rfl
    obtain ⟨hm1, hm2⟩ := hmr2
    obtain rfl : k = m := by simpa using hm2
    have HRES := Lib.hid (show NextIs s d p (p + k) (hitP k) true from Or.inl ⟨rfl, by omega, by have hz := HZN.out; have hdl := HDL.out; have hlL := HL.out; rw [hz]; omega, by rw [← HHIT.out], hpos, fun q h1 h2 => by
      have hin : q - p ∈ pre'.map (·.1) := by rw [hm1, List.mem_range]; omega
      obtain ⟨y, hy, hyk⟩ := List.mem_map.1 hin
      have := hG y hy
      rw [← HHIT.out] at this
      rw [hyk] at this
      simpa [show p + (q - p) = q by omega] using this⟩)
    obtain ⟨hv, hhv⟩ : ∃ v, hitP k = v := ⟨_, rfl⟩
    simp only [hhv] at HRES s5
    obtain ⟨pk, hpk⟩ : ∃ v, p + k = v := ⟨_, rfl⟩
    simp only [hpk] at HRES s4
    clear hhv hpos hG hm hmr hm1 hm2
    gi_wp2
    refine ⟨by simp, .inl ⟨_, _, rfl, run_takeDeferred hK, ?_⟩⟩
    have kD := keep_put (l := D) (.deferred none) (Keep.refl [D] W') (Or.inl (by simp))
    have e4 := (s4.keep kD (by simp; omega)).cell (i := 0) rfl
    have e5 := (s5.keep kD (by simp; omega)).cell (i := 0) rfl
    have e6 := (s6.keep kD (by simp; omega)).cell (i := 0) rfl
    have hkw : Keep [] w (W'.putObj D (.deferred none)) := (KE.out.trans kx (fun b hb => by simp only [List.mem_cons, List.not_mem_nil, or_false] at hb; rcases hb with rfl | rfl | rfl; exact Or.inr HN.out.1; exact Or.inr HN.out.2.1; exact Or.inr HN.out.2.2.1)).trans kD (fun b hb => by simp only [List.mem_singleton] at hb; subst hb; exact Or.inr (by have := KE.out.size; omega))
    refine ⟨_, ?_, pk, hv, Or.inr ⟨rfl, HRES, hkw⟩⟩
    simp [results, Try.f77, go_sem, e4, e5, e6]
end Go.Proofs.Ytpocegdlobnhaaa
end
section
/- The instructions that make a target (plain); a list of them that grows. -/
set_option linter.unusedVariables false
set_option linter.unusedSimpArgs false
set_option maxRecDepth 100000
namespace Go.Proofs.Ytpocegdlobnhaaa
open Go.RowKit
def extF (s : Sg) (d : List UInt8) (q i : Nat) : Nat → Nat → Nat
  | 0, j => j
  | f + 1, j => if fitW s d (q + j * s.size.toNat) (i + j) = true then extF s d q i f (j + 1) else j
/-- How many blocks fit, one behind the other. -/
def cnt (s : Sg) (d : List UInt8) (q i : Nat) : Nat := extF s d q i (d.length + 1) 1
theorem extF_stop {s : Sg} {d : List UInt8} {q i j : Nat} (h : fitW s d (q + j * s.size.toNat) (i + j) = false) : ∀ f, extF s d q i f j = j := by
  intro f; cases f with
  | zero => rfl
  | succ f => rw [extF, if_neg (by rw [h]; simp)]
theorem fitW_le {s : Sg} {d : List UInt8} {k b : Nat} (h : fitW s d k b = true) : k + s.size.toNat ≤ d.length ∧ b < s.blocks.length := by
  unfold fitW at h
  rw [Bool.and_eq_true] at h
  refine ⟨of_decide_eq_true h.1, ?_⟩
  cases hb : s.blocks[b]? with
  | none => rw [hb] at h; simp at h
  | some x => exact (List.getElem?_eq_some_iff.1 hb).1
/-- What stands ahead of a block, if anything. -/
def litP (d : List UInt8) (p q : Nat) : List StepP := if p < q then [.lit ((d.drop p).take (q - p))] else []
def stF (s : Sg) (d : List UInt8) : Nat → Nat → Nat → List StepP
  | 0, _, _ => []
  | f + 1, p, q => if q + s.size.toNat ≤ d.length then
      (if hitI s d q < 0 then stF s d f p (q + 1)
       else litP d p q ++ .cp (hitI s d q).toNat (cnt s d q (hitI s d q).toNat) :: stF s d f (q + cnt s d q (hitI s d q).toNat * s.size.toNat) (q + cnt s d q (hitI s d q).toNat * s.size.toNat))
    else litP d p d.length
/-- The instructions. -/
def stP (s : Sg) (d : List UInt8) : List StepP := stF s d (d.length + 1) 0 0
theorem stF_skip {s : Sg} {d : List UInt8} {p : Nat} : ∀ (m f q0 : Nat), (∀ k, q0 ≤ k → k < q0 + m → hitI s d k < 0) → q0 + m + s.size.toNat ≤ d.length → stF s d (f + m) p q0 = stF s d f p (q0 + m) := by
  intro m
  induction m with
  | zero => intro f q0 _ _; rfl
  | succ m ih =>
    intro f q0 h hl
    rw [show f + (m + 1) = (f + m) + 1 by omega, stF, if_pos (by omega), if_pos (h q0 (by omega) (by omega)), ih f (q0 + 1) (fun k h1 h2 => h k (by omega) (by omega)) (by omega)]
    congr 1; omega
theorem stF_hit {s : Sg} {d : List UInt8} {f p q i : Nat} (hl : q + s.size.toNat ≤ d.length) (hi : hitI s d q = (i : Nat)) : stF s d (f + 1) p q = litP d p q ++ .cp i (cnt s d q i) :: stF s d f (q + cnt s d q i * s.size.toNat) (q + cnt s d q i * s.size.toNat) := by
  rw [stF, if_pos hl, if_neg (by rw [hi]; omega), hi]
  simp only [Int.toNat_natCast]
theorem stF_none {s : Sg} {d : List UInt8} {p : Nat} : ∀ (m f q0 : Nat), d.length ≤ q0 + m → m < f → (∀ k, q0 ≤ k → k + s.size.toNat ≤ d.length → hitI s d k < 0) → 0 < s.size.toNat → stF s d f p q0 = litP d p d.length := by
  intro m
  induction m with
  | zero =>
    intro f q0 h1 h2 h3 h4
    obtain ⟨f, rfl⟩ : ∃ g, f = g + 1 := ⟨f - 1, by omega⟩
    rw [stF, if_neg (by omega)]
  | succ m ih =>
    intro f q0 h1 h2 h3 h4
    obtain ⟨f, rfl⟩ : ∃ g, f = g + 1 := ⟨f - 1, by omega⟩
    rw [stF]
    by_cases hq : q0 + s.size.toNat ≤ d.length
    · rw [if_pos hq, if_pos (h3 q0 (Nat.le_refl _) hq)]
      exact ih f (q0 + 1) (by omega) (by omega) (fun k g1 g2 => h3 k (by omega) g2) h4
    · rw [if_neg hq]
theorem stF_end {s : Sg} {d : List UInt8} {q : Nat} (hq : d.length ≤ q) (hz : 0 < s.size.toNat) : ∀ f, stF s d f q q = [] := by
  intro f; cases f with
  | zero => rfl
  | succ f => rw [stF, if_neg (by omega), litP, if_neg (by omega)]
/-- A list of instructions of the call's own. -/
structure SL (w wr : World) (a : Option Addr) (m c : Nat) (vs : List Value) (l : List StepP) : Prop where
  sl : Sl wr 93 1 (.slice a m c) m vs
  st : StL wr vs l
  fr : Fr w [] (blks (.slice a m c))
  old : ∀ v ∈ vs, ∀ b ∈ stb v, b < w.heap.size
  k : Keep [] w wr
  len : l.length = m
theorem SL.keep {w wr w' : World} {a : Option Addr} {m c : Nat} {vs : List Value} {l : List StepP} (h : SL w wr a m c vs l) (k : Keep [] wr w') : SL w w' a m c vs l :=
  ⟨h.sl.keep k (by simp), h.st.keep k (by simp), h.fr, h.old, h.k.trans' k, h.len⟩
theorem SL.app {w wr W0 w6 : World} {a a6 : Option Addr} {m c c6 : Nat} {vs : List Value} {l : List StepP} {v : Value} {x : StepP} (h : SL w wr a m c vs l) (k : Keep [] wr W0) (hs6 : Sl w6 93 1 (.slice a6 (m + 1) c6) (m + 1) (vs ++ [v])) (hk6 : Keep (blks (.slice a m c)) W0 w6)
    (hf6 : Fr W0 (blks (.slice a m c)) (blks (.slice a6 (m + 1) c6))) (hv : StIs W0 v x) (hvb : ∀ b ∈ stb v, b < w.heap.size) : SL w w6 a6 (m + 1) c6 (vs ++ [v]) (l ++ [x]) := by
  have hold : ∀ u ∈ vs ++ [v], ∀ b ∈ stb u, b < w.heap.size := fun u hu b hb => by
    rcases List.mem_append.1 hu with h1 | h1
    · exact h.old u h1 b hb
    · obtain rfl : u = v := by simpa using h1
      exact hvb b hb
  refine ⟨hs6, ((h.st.keep k (by simp)).snoc hv).keep hk6 (fun u hu b hb hb2 => ?_), h.fr.trans hf6 (h.k.trans' k).size, hold, (h.k.trans' k).trans hk6 (fun b hb => Or.inr (fr_old h.fr b hb)), by rw [List.length_append, h.len]; rfl⟩
  have := hold u hu b hb
  have := fr_old h.fr b hb2
  omega
end Go.Proofs.Ytpocegdlobnhaaa
end

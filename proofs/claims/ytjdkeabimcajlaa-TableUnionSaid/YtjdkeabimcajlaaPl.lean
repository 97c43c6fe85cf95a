/- place: where an action stands in a table, and whether it is there. -/
import Derived.Test.YtjdkeabimcajlaaCo
set_option linter.unusedVariables false
set_option linter.unusedSimpArgs false
namespace Go.Proofs.Ytjdkeabimcajlaa
open Go.RowKit

/-- What lies still while an action is compared: the slice's variable, a result, the action. -/
def S3 (w0 : World) (ps : Nat) (s : Value) (b o : Nat) (x : Res) (pa : Nat) (id : List UInt8) (w : World) : Prop :=
  w.rangeAt b o x.cells ∧ w.rangeAt pa 0 (bs id) ∧ w.cell? ⟨ps, 0, none⟩ = some s ∧ Keep [] w0 w
theorem S3.step {w0 w w' : World} {ps b o pa : Nat} {s : Value} {x : Res} {id : List UInt8} (h : S3 w0 ps s b o x pa id w) (k : Keep [] w w') : S3 w0 ps s b o x pa id w' :=
  ⟨rangeAt_keep h.1 k (by simp), rangeAt_keep h.2.1 k (by simp), k.cell h.2.2.1 (by simp), h.2.2.2.trans k (by simp)⟩

set_option maxHeartbeats 2000000 in
set_option maxRecDepth 100000 in
theorem cl60_any (ps pa : Nat) (a : Option Addr) (n c : Nat) (l : List Res) (id : List UInt8) (k : Nat) (x : Res) (w : World) (hs : w.cell? ⟨ps, 0, none⟩ = some (.slice a n c)) (hi : w.rangeAt pa 0 (bs id)) (hx : RsIn w a n c l) (hid : id.length = 32) (hk : k < n) (ex : l[k]? = some x) :
    Calls Try.prog 60 #[.int .i64 (k : Nat), .pointer (some ⟨ps, 0, none⟩), .pointer (some ⟨pa, 0, none⟩)] w fun e w' => e = .returned (.bool (!decide (Lib.compareBytes x.act id < 0))) ∧ Keep [] w w' := by
  obtain ⟨N, hN, hso⟩ := size39
  have HN := Lib.hid hN
  obtain ⟨x', b, off, ex', rfl, rx⟩ := hx.at hk
  obtain rfl : x = x' := by rw [ex] at ex'; exact Option.some.inj ex'
  rw [hN] at rx
  have hS : S3 w ps (.slice (some ⟨b, off, none⟩) n c) b (off + k * N) x pa id w := ⟨rx, hi, hs, Keep.refl _ _⟩
  have i0 : (0 : Int) ≤ k := by omega
  have i1 : (k : Int) < n := by omega
  have BEL := Lib.hid (fun W => below_any x.act id W x.la hid)
  clear hN hx ex ex' hs hi rx
  go_enter Try.func60, Try.ntmps60
  go_upto_region 1 with fail
  refine wp_region_noPanic ?_
  refine wp_region_held_drew (S := S3 w ps (.slice (some ⟨b, off, none⟩) n c) b (off + k * N) x pa id) (by kernel_rfl) ?_ (fun hHeld0 => ?_)
  · (try dsimp only); first | exact S3.step hS ((Keep.refl [] _).drew) | exact S3.step (by assumption) hk
  refine wpAnyH_take (i := 0) (oi := ({ dst := some 5, op := Go.Op.load 22 (Go.Operand.tmp 1), type := 22, pos := "table.go:80", after := #[], guard := none } : Oper)) (v := ?_) rfl (by kernel_rfl) (by kernel_rfl) (by kernel_rfl) (fun _ _ _ h => h) (Or.inl ⟨by rfl, ?_⟩) (by assumption) ?_
  rotate_left
  · (intro w hSw; (try dsimp only at hSw); have cS := hSw.2.2.1; go_simp; try with_reducible rfl)
  try simp only [Act.put, List.setIfInBounds_toArray, List.set_cons_zero, List.set_cons_succ]
  refine wpAnyH_take (i := 1) (oi := ({ dst := some 6, op := Go.Op.move (Go.Operand.tmp 0), type := 3, pos := "table.go:80", after := #[], guard := none } : Oper)) (v := ?_) rfl (by kernel_rfl) (by kernel_rfl) (by kernel_rfl) (fun _ _ _ h => h) (Or.inl ⟨by rfl, ?_⟩) (by assumption) ?_
  rotate_left
  · (intro w hSw; (try dsimp only at hSw); go_simp; try with_reducible rfl)
  try simp only [Act.put, List.setIfInBounds_toArray, List.set_cons_zero, List.set_cons_succ]
  refine wpAnyH_take (i := 2) (oi := ({ dst := some 7, op := Go.Op.indexAddr 22 (Go.Operand.tmp 5) (Go.Operand.tmp 6), type := 0, pos := "table.go:80", after := #[{ on := 0, ground := Go.Ground.data }, { on := 1, ground := Go.Ground.data }], guard := none } : Oper)) (v := ?_) rfl (by kernel_rfl) (by kernel_rfl) (by kernel_rfl) (fun _ _ _ h => h) (Or.inl ⟨by rfl, ?_⟩) (by assumption) ?_
  rotate_left
  · (intro w hSw; (try dsimp only at hSw); go_simp; try with_reducible rfl)
  try simp only [Act.put, List.setIfInBounds_toArray, List.set_cons_zero, List.set_cons_succ]
  refine wpAnyH_take (i := 3) (oi := ({ dst := some 8, op := Go.Op.fieldAddr 39 (Go.Operand.tmp 7) 0, type := 0, pos := "table.go:80", after := #[{ on := 2, ground := Go.Ground.data }], guard := none } : Oper)) (v := ?_) rfl (by kernel_rfl) (by kernel_rfl) (by kernel_rfl) (fun _ _ _ h => h) (Or.inl ⟨by rfl, ?_⟩) (by assumption) ?_
  rotate_left
  · (intro w hSw; (try dsimp only at hSw); go_simp; try with_reducible rfl)
  try simp only [Act.put, List.setIfInBounds_toArray, List.set_cons_zero, List.set_cons_succ]
  refine wpAnyH_take (i := 4) (oi := ({ dst := some 9, op := Go.Op.load 37 (Go.Operand.tmp 8), type := 37, pos := "table.go:80", after := #[{ on := 3, ground := Go.Ground.data }], guard := none } : Oper)) (v := .agg (List.toArray (bs x.act))) rfl (by kernel_rfl) (by kernel_rfl) (by kernel_rfl) (fun _ _ _ h => h) (yieldsIf_load_mid (by rfl) _ _ rfl _ _ rfl (bs x.act) _ (fun w hSw => (rangeAt_act hSw.1)) Try.underlying37 rfl (hi37 x.la)) (by assumption) ?_
  try simp only [Act.put, List.setIfInBounds_toArray, List.set_cons_zero, List.set_cons_succ]
  refine wpAnyH_take (i := 5) (oi := ({ dst := some 10, op := Go.Op.load 37 (Go.Operand.tmp 2), type := 37, pos := "table.go:80", after := #[], guard := none } : Oper)) (v := .agg (List.toArray (bs id))) rfl (by kernel_rfl) (by kernel_rfl) (by kernel_rfl) (fun _ _ _ h => h) (yieldsIf_load_mid (by rfl) _ _ rfl _ _ rfl (bs id) _ (fun w hSw => hSw.2.1) Try.underlying37 rfl (hi37 hid)) (by assumption) ?_
  try simp only [Act.put, List.setIfInBounds_toArray, List.set_cons_zero, List.set_cons_succ]
  refine wpAnyH_ready (rs := [6]) (by kernel_rfl) (by simp) ?_
  refine (AllReadyH.cons (o := ({ dst := some 11, op := Go.Op.call { callee := Go.Callee.value (Go.Operand.func 43), args := #[Go.Operand.tmp 9, Go.Operand.tmp 10], argTypes := #[37, 37] }, type := 4, pos := "table.go:80", after := #[{ on := 4, ground := Go.Ground.data }, { on := 5, ground := Go.Ground.data }], guard := none } : Oper)) rfl (fun K hK => ?_) AllReadyH.nil)
  go_simp
  (refine (BEL.out _).mono ?_; rintro e w' ⟨rfl, hk⟩)
  go_wp2_with fail
  refine hK.out _ _ ?_ (fun hHeld1 => ?_)
  · (try dsimp only); first | exact S3.step hS ((Keep.refl [] _).drew) | exact S3.step (by assumption) hk
  clear hK K
  try simp only [Act.put, List.setIfInBounds_toArray, List.set_cons_zero, List.set_cons_succ]
  refine wpAnyH_take (i := 7) (oi := ({ dst := some 12, op := Go.Op.unOp Go.UnOp.not 4 (Go.Operand.tmp 11), type := 4, pos := "table.go:80", after := #[{ on := 6, ground := Go.Ground.data }], guard := none } : Oper)) (v := ?_) rfl (by kernel_rfl) (by kernel_rfl) (by kernel_rfl) (fun _ _ _ h => h) (Or.inl ⟨by rfl, ?_⟩) (by assumption) ?_
  rotate_left
  · (intro w hSw; (try dsimp only at hSw); go_simp; try with_reducible rfl)
  try simp only [Act.put, List.setIfInBounds_toArray, List.set_cons_zero, List.set_cons_succ]
  refine wpAnyH_take (i := 8) (oi := ({ dst := some 4, op := Go.Op.assign (Go.Operand.tmp 12), type := 4, pos := "table.go:80", after := #[{ on := 7, ground := Go.Ground.data }, { on := 6, ground := Go.Ground.chain }, { on := 0, ground := Go.Ground.phase }, { on := 1, ground := Go.Ground.phase }, { on := 2, ground := Go.Ground.phase }, { on := 3, ground := Go.Ground.phase }, { on := 4, ground := Go.Ground.phase }, { on := 5, ground := Go.Ground.phase }, { on := 6, ground := Go.Ground.phase }, { on := 7, ground := Go.Ground.phase }], guard := none } : Oper)) (v := ?_) rfl (by kernel_rfl) (by kernel_rfl) (by kernel_rfl) (fun _ _ _ h => h) (Or.inl ⟨by rfl, ?_⟩) (by assumption) ?_
  rotate_left
  · (intro w hSw; (try dsimp only at hSw); go_simp; try with_reducible rfl)
  try simp only [Act.put, List.setIfInBounds_toArray, List.set_cons_zero, List.set_cons_succ]
  refine wpAnyH_done (by kernel_rfl) ?_ _
  refine NoPanic.normal ?_
  go_wp2_with fail; go_returns; exact ⟨rfl, (by assumption : S3 w ps (.slice (some ⟨b, off, none⟩) n c) b (off + k * N) x pa id _).2.2.2⟩

/-- Whether the result at a place comes not before. -/
def upP (l : List Res) (id : List UInt8) (k : Nat) : Bool := match l[k]? with
  | none => true
  | some x => !decide (Lib.compareBytes x.act id < 0)
theorem upP_at {l : List Res} {id : List UInt8} {k : Nat} {x : Res} (h : l[k]? = some x) : upP l id k = !decide (Lib.compareBytes x.act id < 0) := by unfold upP; rw [h]
theorem upP_up {l : List Res} (h : okTo l l.length = true) (id : List UInt8) (k m : Nat) (hkm : k ≤ m) (hm : m < l.length) (hk : upP l id k = true) : upP l id m = true := by
  have h1 := List.getElem?_eq_getElem (l := l) (i := m) hm
  have h2 := List.getElem?_eq_getElem (l := l) (i := k) (by omega)
  rw [upP_at h2] at hk
  rw [upP_at h1]
  rcases Nat.lt_or_eq_of_le hkm with h3 | h3
  · have := ok_lt h h3 h2 h1
    simp only [Bool.not_eq_true', decide_eq_false_iff_not] at hk ⊢
    intro hc
    exact hk (cmp_lt_trans this hc)
  · subst h3; exact hk
theorem find_plc {l : List Res} (h : okTo l l.length = true) (id : List UInt8) {r : Nat} (h0 : r ≤ l.length) (h1 : ∀ k, k < r → upP l id k = false) (h2 : ∀ k, r ≤ k → k < l.length → upP l id k = true) : r = plc l id := by
  refine IsPlace.eq (l := l) (a := id) ⟨h0, fun k x hk hx => ?_, fun k x hk hx => ?_⟩ (plc_is h id)
  · have := h1 k hk
    rw [upP_at hx] at this
    simpa using this
  · have := h2 k hk (List.getElem?_eq_some_iff.1 hx).1
    rw [upP_at hx] at this
    simpa using this
theorem hit_at {l : List Res} {id : List UInt8} {x : Res} {r : Nat} (hr : r = plc l id) (hx : l[r]? = some x) : hitR l id = (x.act == id) := by subst hr; unfold hitR; rw [hx]
theorem hit_end {l : List Res} {id : List UInt8} {r : Nat} (hr : r = plc l id) (hx : l.length ≤ r) : hitR l id = false := by subst hr; unfold hitR; rw [List.getElem?_eq_none hx]
theorem call60 : ∀ (args : Array Value) (w : World), (callFunc 60 args).run Try.prog w = .ok (.enter 60 args) w := fun _ _ => rfl
theorem ablk_mem {a : Option Addr} {n c : Nat} {l : List Res} {w : World} (h : RsIn w a n c l) (hl : l ≠ []) : ablk a < w.heap.size := h.lt hl
/-- The slice's variable alone. -/
def S1p (w0 : World) (ps : Nat) (s : Value) (w : World) : Prop := w.cell? ⟨ps, 0, none⟩ = some s ∧ Keep [] w0 w
theorem S1p.step {w0 w w' : World} {ps : Nat} {s : Value} (h : S1p w0 ps s w) (k : Keep [] w w') : S1p w0 ps s w' := ⟨k.cell h.1 (by simp), h.2.trans k (by simp)⟩

set_option maxHeartbeats 4000000 in
set_option maxRecDepth 100000 in
theorem place_any (a : Option Addr) (n c : Nat) (l : List Res) (id : List UInt8) (w : World) (hx : RsIn w a n c l) (hok : okTo l l.length = true) (h32 : l.length ≤ 32) (hid : id.length = 32) :
    Calls Try.prog 46 #[.slice a n c, .agg (bs id).toArray] w fun e w' => e = .returned (.tuple #[.int .i64 (plc l id : Nat), .bool (hitR l id)]) ∧ Keep [] w w' := by
  have hl := hx.hlen
  have HH := Lib.hid (And.intro hl (And.intro hok h32))
  obtain ⟨W, hW⟩ : ∃ W, (w.alloc (.cells #[.slice a n c] 22)).alloc (.cells (bs id).toArray 37) = W := ⟨_, rfl⟩
  have BS : Blk W w.heap.size #[.slice a n c] 22 := by rw [← hW]; exact (Blk.new w _ 22).alloc _
  have BI : Blk W (w.heap.size + 1) (bs id).toArray 37 := by rw [← hW]; exact Blk.new' _ _ 37 (by simp)
  have kW : Keep [] w W := by rw [← hW]; exact ((Keep.refl [] w).alloc _).alloc _
  have hxW := hx.keep kW (by simp)
  have HW := Lib.hid hW
  clear hW
  have n32 : n ≤ 32 := by omega
  clear hok h32 hl
  go_enter Try.func46, Try.ntmps46
  go_upto_region 1 with fail
  rw [HW.out]
  generalize w.heap.size = p at BS BI ⊢
  have cS := BS.cell (i := 0) rfl
  go_wp2_with fail
  refine (search_any 60 #[.pointer (some ⟨p, 0, none⟩), .pointer (some ⟨p + 1, 0, none⟩)] n (upP l id) W (by omega) (fun k m h1 h2 => upP_up HH.out.2.1 id k m h1 (by rw [HH.out.1]; exact h2)) call60 (fun k V hk kV => ?_)).mono ?_
  · obtain ⟨x, b, off, ex, e, rx⟩ := hxW.at hk
    rw [upP_at ex]
    have hbi : (bs id).toArray = (bs id).toArray := rfl
    exact cl60_any p (p + 1) a n c l id k x V (kV.cell cS (by simp)) (rangeAt_of_blk (BI.keep kV (by simp))) (hxW.keep kV (by simp)) hid hk ex
  rintro e w1 ⟨r, rfl, hrn, hlow, hhigh, k1⟩
  have HR := Lib.hid (find_plc HH.out.2.1 id (by rw [HH.out.1]; exact hrn) hlow (by rw [HH.out.1]; exact hhigh))
  have cS1 := k1.cell cS (by simp)
  have kk := kW.trans k1 (by simp)
  have bi1 := rangeAt_of_blk (BI.keep k1 (by simp))
  have hx1 := hxW.keep k1 (by simp)
  clear hlow hhigh cS BS BI hxW kW k1 hx
  by_cases hrl : r < n
  · obtain ⟨x, b, off, ex, rfl, rx⟩ := hx1.at hrl
    obtain ⟨N, hN, hso⟩ := size39
    have HN := Lib.hid hN
    rw [hN] at rx
    have hS : S3 w1 p (.slice (some ⟨b, off, none⟩) n c) b (off + r * N) x (p + 1) id w1 := ⟨rx, bi1, cS1, Keep.refl _ _⟩
    have i0 : (0 : Int) ≤ r := by omega
    have i1 : (r : Int) < n := by omega
    have heq : ∀ w, (Op.equalIn 10000 37 (.agg (bs x.act).toArray) (.agg (bs id).toArray)).run Try.prog w = .ok (x.act == id) w := eql_id 9998 x.act id x.la hid
    have HX := Lib.hid (hit_at HR.out ex)
    clear hN hx1 ex rx bi1 cS1
    go_upto_region 2 with fail
    refine wp_region_noPanic ?_
    refine wp_region_held_drew (S := S3 w1 p (.slice (some ⟨b, off, none⟩) n c) b (off + r * N) x (p + 1) id) (by kernel_rfl) ?_ (fun hHeld0 => ?_)
    · (try dsimp only); first | exact S3.step hS ((Keep.refl [] _).drew) | exact S3.step (by assumption) hk
    refine wpAnyH_take (i := 0) (oi := ({ dst := some 11, op := Go.Op.move (Go.Operand.tmp 6), type := 3, pos := "table.go:81", after := #[], guard := none } : Oper)) (v := ?_) rfl (by kernel_rfl) (by kernel_rfl) (by kernel_rfl) (fun _ _ _ h => h) (Or.inl ⟨by rfl, ?_⟩) (by assumption) ?_
    rotate_left
    · (intro w hSw; (try dsimp only at hSw); go_simp; try with_reducible rfl)
    try simp only [Act.put, List.setIfInBounds_toArray, List.set_cons_zero, List.set_cons_succ]
    refine wpAnyH_take (i := 1) (oi := ({ dst := some 12, op := Go.Op.move (Go.Operand.tmp 6), type := 3, pos := "table.go:81", after := #[], guard := none } : Oper)) (v := ?_) rfl (by kernel_rfl) (by kernel_rfl) (by kernel_rfl) (fun _ _ _ h => h) (Or.inl ⟨by rfl, ?_⟩) (by assumption) ?_
    rotate_left
    · (intro w hSw; (try dsimp only at hSw); go_simp; try with_reducible rfl)
    try simp only [Act.put, List.setIfInBounds_toArray, List.set_cons_zero, List.set_cons_succ]
    refine wpAnyH_take (i := 2) (oi := ({ dst := some 13, op := Go.Op.load 22 (Go.Operand.tmp 2), type := 22, pos := "table.go:81", after := #[], guard := none } : Oper)) (v := ?_) rfl (by kernel_rfl) (by kernel_rfl) (by kernel_rfl) (fun _ _ _ h => h) (Or.inl ⟨by rfl, ?_⟩) (by assumption) ?_
    rotate_left
    · (intro w hSw; (try dsimp only at hSw); have cS := hSw.2.2.1; go_simp; try with_reducible rfl)
    try simp only [Act.put, List.setIfInBounds_toArray, List.set_cons_zero, List.set_cons_succ]
    refine wpAnyH_take (i := 3) (oi := ({ dst := some 14, op := Go.Op.call { callee := Go.Callee.builtin Go.Builtin.len, args := #[Go.Operand.tmp 13], argTypes := #[22] }, type := 3, pos := "table.go:81", after := #[{ on := 2, ground := Go.Ground.data }], guard := none } : Oper)) (v := ?_) rfl (by kernel_rfl) (by kernel_rfl) (by kernel_rfl) (fun _ _ _ h => h) (Or.inl ⟨by rfl, ?_⟩) (by assumption) ?_
    rotate_left
    · (intro w hSw; (try dsimp only at hSw); go_simp; try with_reducible rfl)
    try simp only [Act.put, List.setIfInBounds_toArray, List.set_cons_zero, List.set_cons_succ]
    refine wpAnyH_take (i := 4) (oi := ({ dst := some 15, op := Go.Op.binOp Go.BinOp.lss 3 (Go.Operand.tmp 12) (Go.Operand.tmp 14) 3, type := 4, pos := "table.go:81", after := #[{ on := 1, ground := Go.Ground.data }, { on := 3, ground := Go.Ground.data }], guard := none } : Oper)) (v := ?_) rfl (by kernel_rfl) (by kernel_rfl) (by kernel_rfl) (fun _ _ _ h => h) (Or.inl ⟨by rfl, ?_⟩) (by assumption) ?_
    rotate_left
    · (intro w hSw; (try dsimp only at hSw); go_simp; try with_reducible rfl)
    try simp only [Act.put, List.setIfInBounds_toArray, List.set_cons_zero, List.set_cons_succ]
    refine wpAnyH_take (i := 5) (oi := ({ dst := some 16, op := Go.Op.move (Go.Operand.tmp 15), type := 4, pos := "table.go:81", after := #[{ on := 4, ground := Go.Ground.data }], guard := none } : Oper)) (v := ?_) rfl (by kernel_rfl) (by kernel_rfl) (by kernel_rfl) (fun _ _ _ h => h) (Or.inl ⟨by rfl, ?_⟩) (by assumption) ?_
    rotate_left
    · (intro w hSw; (try dsimp only at hSw); go_simp; try with_reducible rfl)
    try simp only [Act.put, List.setIfInBounds_toArray, List.set_cons_zero, List.set_cons_succ]
    refine wpAnyH_take (i := 6) (oi := ({ dst := some 17, op := Go.Op.load 22 (Go.Operand.tmp 2), type := 22, pos := "table.go:81", after := #[{ on := 5, ground := Go.Ground.guard }, { on := 14, ground := Go.Ground.gcOnly Go.Departure.lateStores }], guard := some (5, true) } : Oper)) (v := ?_) rfl (by kernel_rfl) (by kernel_rfl) (by kernel_rfl) (fun _ _ _ h => h) (Or.inl ⟨by rfl, ?_⟩) (by assumption) ?_
    rotate_left
    · (intro w hSw; (try dsimp only at hSw); have cS := hSw.2.2.1; go_simp; try with_reducible rfl)
    try simp only [Act.put, List.setIfInBounds_toArray, List.set_cons_zero, List.set_cons_succ]
    refine wpAnyH_take (i := 7) (oi := ({ dst := some 18, op := Go.Op.move (Go.Operand.tmp 6), type := 3, pos := "table.go:81", after := #[{ on := 5, ground := Go.Ground.guard }, { on := 14, ground := Go.Ground.gcOnly Go.Departure.lateStores }], guard := some (5, true) } : Oper)) (v := ?_) rfl (by kernel_rfl) (by kernel_rfl) (by kernel_rfl) (fun _ _ _ h => h) (Or.inl ⟨by rfl, ?_⟩) (by assumption) ?_
    rotate_left
    · (intro w hSw; (try dsimp only at hSw); go_simp; try with_reducible rfl)
    try simp only [Act.put, List.setIfInBounds_toArray, List.set_cons_zero, List.set_cons_succ]
    refine wpAnyH_take (i := 8) (oi := ({ dst := some 19, op := Go.Op.indexAddr 22 (Go.Operand.tmp 17) (Go.Operand.tmp 18), type := 0, pos := "table.go:81", after := #[{ on := 6, ground := Go.Ground.data }, { on := 7, ground := Go.Ground.data }, { on := 5, ground := Go.Ground.guard }, { on := 14, ground := Go.Ground.gcOnly Go.Departure.lateStores }], guard := some (5, true) } : Oper)) (v := ?_) rfl (by kernel_rfl) (by kernel_rfl) (by kernel_rfl) (fun _ _ _ h => h) (Or.inl ⟨by rfl, ?_⟩) (by assumption) ?_
    rotate_left
    · (intro w hSw; (try dsimp only at hSw); go_simp; try with_reducible rfl)
    try simp only [Act.put, List.setIfInBounds_toArray, List.set_cons_zero, List.set_cons_succ]
    refine wpAnyH_take (i := 9) (oi := ({ dst := some 20, op := Go.Op.fieldAddr 39 (Go.Operand.tmp 19) 0, type := 0, pos := "table.go:81", after := #[{ on := 8, ground := Go.Ground.data }, { on := 5, ground := Go.Ground.guard }, { on := 14, ground := Go.Ground.gcOnly Go.Departure.lateStores }], guard := some (5, true) } : Oper)) (v := ?_) rfl (by kernel_rfl) (by kernel_rfl) (by kernel_rfl) (fun _ _ _ h => h) (Or.inl ⟨by rfl, ?_⟩) (by assumption) ?_
    rotate_left
    · (intro w hSw; (try dsimp only at hSw); go_simp; try with_reducible rfl)
    try simp only [Act.put, List.setIfInBounds_toArray, List.set_cons_zero, List.set_cons_succ]
    refine wpAnyH_take (i := 10) (oi := ({ dst := some 21, op := Go.Op.load 37 (Go.Operand.tmp 20), type := 37, pos := "table.go:81", after := #[{ on := 9, ground := Go.Ground.data }, { on := 5, ground := Go.Ground.guard }, { on := 14, ground := Go.Ground.gcOnly Go.Departure.lateStores }], guard := some (5, true) } : Oper)) (v := .agg (List.toArray (bs x.act))) rfl (by kernel_rfl) (by kernel_rfl) (by kernel_rfl) (fun _ _ _ h => h) (yieldsIf_load_mid (by rfl) _ _ rfl _ _ rfl (bs x.act) _ (fun w hSw => (rangeAt_act hSw.1)) Try.underlying37 rfl (hi37 x.la)) (by assumption) ?_
    try simp only [Act.put, List.setIfInBounds_toArray, List.set_cons_zero, List.set_cons_succ]
    refine wpAnyH_take (i := 11) (oi := ({ dst := some 22, op := Go.Op.load 37 (Go.Operand.tmp 3), type := 37, pos := "table.go:81", after := #[{ on := 5, ground := Go.Ground.guard }, { on := 14, ground := Go.Ground.gcOnly Go.Departure.lateStores }], guard := some (5, true) } : Oper)) (v := .agg (List.toArray (bs id))) rfl (by kernel_rfl) (by kernel_rfl) (by kernel_rfl) (fun _ _ _ h => h) (yieldsIf_load_mid (by rfl) _ _ rfl _ _ rfl (bs id) _ (fun w hSw => hSw.2.1) Try.underlying37 rfl (hi37 hid)) (by assumption) ?_
    try simp only [Act.put, List.setIfInBounds_toArray, List.set_cons_zero, List.set_cons_succ]
    refine wpAnyH_take (i := 12) (oi := ({ dst := some 23, op := Go.Op.binOp Go.BinOp.eql 37 (Go.Operand.tmp 21) (Go.Operand.tmp 22) 37, type := 4, pos := "table.go:81", after := #[{ on := 10, ground := Go.Ground.data }, { on := 11, ground := Go.Ground.data }, { on := 5, ground := Go.Ground.guard }, { on := 14, ground := Go.Ground.gcOnly Go.Departure.lateStores }], guard := some (5, true) } : Oper)) (v := ?_) rfl (by kernel_rfl) (by kernel_rfl) (by kernel_rfl) (fun _ _ _ h => h) (Or.inl ⟨by rfl, ?_⟩) (by assumption) ?_
    rotate_left
    · (intro w hSw; (try dsimp only at hSw); go_simp; try with_reducible rfl)
    try simp only [Act.put, List.setIfInBounds_toArray, List.set_cons_zero, List.set_cons_succ]
    refine wpAnyH_take (i := 13) (oi := ({ dst := some 24, op := Go.Op.pick (Go.Operand.tmp 16) (Go.Operand.tmp 23) (Go.Operand.const (Go.Value.bool false)), type := 4, pos := "table.go:81", after := #[{ on := 5, ground := Go.Ground.data }, { on := 12, ground := Go.Ground.data }, { on := 14, ground := Go.Ground.gcOnly Go.Departure.lateStores }], guard := none } : Oper)) (v := ?_) rfl (by kernel_rfl) (by kernel_rfl) (by kernel_rfl) (fun _ _ _ h => h) (Or.inl ⟨by rfl, ?_⟩) (by assumption) ?_
    rotate_left
    · (intro w hSw; (try dsimp only at hSw); go_simp; try with_reducible rfl)
    try simp only [Act.put, List.setIfInBounds_toArray, List.set_cons_zero, List.set_cons_succ]
    refine wpAnyH_take (i := 14) (oi := ({ dst := some 4, op := Go.Op.assign (Go.Operand.tmp 11), type := 3, pos := "table.go:81", after := #[{ on := 0, ground := Go.Ground.data }, { on := 5, ground := Go.Ground.chain }, { on := 0, ground := Go.Ground.phase }, { on := 1, ground := Go.Ground.textOnly Go.Departure.lateStores }, { on := 2, ground := Go.Ground.textOnly Go.Departure.lateStores }, { on := 3, ground := Go.Ground.textOnly Go.Departure.lateStoresUnsure }, { on := 4, ground := Go.Ground.textOnly Go.Departure.lateStores }, { on := 5, ground := Go.Ground.textOnly Go.Departure.lateStores }, { on := 6, ground := Go.Ground.textOnly Go.Departure.lateStores }, { on := 7, ground := Go.Ground.textOnly Go.Departure.lateStores }, { on := 8, ground := Go.Ground.textOnly Go.Departure.lateStores }, { on := 9, ground := Go.Ground.textOnly Go.Departure.lateStores }, { on := 10, ground := Go.Ground.textOnly Go.Departure.lateStores }, { on := 11, ground := Go.Ground.textOnly Go.Departure.lateStores }, { on := 12, ground := Go.Ground.textOnly Go.Departure.lateStores }, { on := 13, ground := Go.Ground.textOnly Go.Departure.lateStores }], guard := none } : Oper)) (v := ?_) rfl (by kernel_rfl) (by kernel_rfl) (by kernel_rfl) (fun _ _ _ h => h) (Or.inl ⟨by rfl, ?_⟩) (by assumption) ?_
    rotate_left
    · (intro w hSw; (try dsimp only at hSw); go_simp; try with_reducible rfl)
    try simp only [Act.put, List.setIfInBounds_toArray, List.set_cons_zero, List.set_cons_succ]
    refine wpAnyH_take (i := 15) (oi := ({ dst := some 5, op := Go.Op.assign (Go.Operand.tmp 24), type := 4, pos := "table.go:81", after := #[{ on := 13, ground := Go.Ground.data }, { on := 14, ground := Go.Ground.chain }, { on := 0, ground := Go.Ground.phase }, { on := 1, ground := Go.Ground.phase }, { on := 2, ground := Go.Ground.phase }, { on := 3, ground := Go.Ground.phase }, { on := 4, ground := Go.Ground.phase }, { on := 5, ground := Go.Ground.phase }, { on := 6, ground := Go.Ground.phase }, { on := 7, ground := Go.Ground.phase }, { on := 8, ground := Go.Ground.phase }, { on := 9, ground := Go.Ground.phase }, { on := 10, ground := Go.Ground.phase }, { on := 11, ground := Go.Ground.phase }, { on := 12, ground := Go.Ground.phase }, { on := 13, ground := Go.Ground.phase }, { on := 14, ground := Go.Ground.phase }], guard := none } : Oper)) (v := ?_) rfl (by kernel_rfl) (by kernel_rfl) (by kernel_rfl) (fun _ _ _ h => h) (Or.inl ⟨by rfl, ?_⟩) (by assumption) ?_
    rotate_left
    · (intro w hSw; (try dsimp only at hSw); go_simp; try with_reducible rfl)
    try simp only [Act.put, List.setIfInBounds_toArray, List.set_cons_zero, List.set_cons_succ]
    refine wpAnyH_done (by kernel_rfl) ?_ _
    refine NoPanic.normal ?_
    go_wp2_with fail; go_returns; exact ⟨by rw [HX.out, ← HR.out]; rfl, kk.trans' (by assumption : S3 w1 p (.slice (some ⟨b, off, none⟩) n c) b (off + r * N) x (p + 1) id _).2.2.2⟩
  · obtain rfl : r = n := by omega
    have HX := Lib.hid (hit_end HR.out (by rw [HH.out.1]; exact Nat.le_refl _))
    have hS : S1p w1 p (.slice a r c) w1 := ⟨cS1, Keep.refl _ _⟩
    clear hx1 bi1 cS1
    go_upto_region 2 with fail
    refine wp_region_noPanic ?_
    refine wp_region_held_drew (S := S1p w1 p (.slice a r c)) (by kernel_rfl) ?_ (fun hHeld0 => ?_)
    · (try dsimp only); first | exact S1p.step hS ((Keep.refl [] _).drew) | exact S1p.step (by assumption) hk
    refine wpAnyH_take (i := 0) (oi := ({ dst := some 11, op := Go.Op.move (Go.Operand.tmp 6), type := 3, pos := "table.go:81", after := #[], guard := none } : Oper)) (v := ?_) rfl (by kernel_rfl) (by kernel_rfl) (by kernel_rfl) (fun _ _ _ h => h) (Or.inl ⟨by rfl, ?_⟩) (by assumption) ?_
    rotate_left
    · (intro w hSw; (try dsimp only at hSw); go_simp; try with_reducible rfl)
    try simp only [Act.put, List.setIfInBounds_toArray, List.set_cons_zero, List.set_cons_succ]
    refine wpAnyH_take (i := 1) (oi := ({ dst := some 12, op := Go.Op.move (Go.Operand.tmp 6), type := 3, pos := "table.go:81", after := #[], guard := none } : Oper)) (v := ?_) rfl (by kernel_rfl) (by kernel_rfl) (by kernel_rfl) (fun _ _ _ h => h) (Or.inl ⟨by rfl, ?_⟩) (by assumption) ?_
    rotate_left
    · (intro w hSw; (try dsimp only at hSw); go_simp; try with_reducible rfl)
    try simp only [Act.put, List.setIfInBounds_toArray, List.set_cons_zero, List.set_cons_succ]
    refine wpAnyH_take (i := 2) (oi := ({ dst := some 13, op := Go.Op.load 22 (Go.Operand.tmp 2), type := 22, pos := "table.go:81", after := #[], guard := none } : Oper)) (v := ?_) rfl (by kernel_rfl) (by kernel_rfl) (by kernel_rfl) (fun _ _ _ h => h) (Or.inl ⟨by rfl, ?_⟩) (by assumption) ?_
    rotate_left
    · (intro w hSw; (try dsimp only at hSw); have cS := hSw.1; go_simp; try with_reducible rfl)
    try simp only [Act.put, List.setIfInBounds_toArray, List.set_cons_zero, List.set_cons_succ]
    refine wpAnyH_take (i := 3) (oi := ({ dst := some 14, op := Go.Op.call { callee := Go.Callee.builtin Go.Builtin.len, args := #[Go.Operand.tmp 13], argTypes := #[22] }, type := 3, pos := "table.go:81", after := #[{ on := 2, ground := Go.Ground.data }], guard := none } : Oper)) (v := ?_) rfl (by kernel_rfl) (by kernel_rfl) (by kernel_rfl) (fun _ _ _ h => h) (Or.inl ⟨by rfl, ?_⟩) (by assumption) ?_
    rotate_left
    · (intro w hSw; (try dsimp only at hSw); go_simp; try with_reducible rfl)
    try simp only [Act.put, List.setIfInBounds_toArray, List.set_cons_zero, List.set_cons_succ]
    refine wpAnyH_take (i := 4) (oi := ({ dst := some 15, op := Go.Op.binOp Go.BinOp.lss 3 (Go.Operand.tmp 12) (Go.Operand.tmp 14) 3, type := 4, pos := "table.go:81", after := #[{ on := 1, ground := Go.Ground.data }, { on := 3, ground := Go.Ground.data }], guard := none } : Oper)) (v := ?_) rfl (by kernel_rfl) (by kernel_rfl) (by kernel_rfl) (fun _ _ _ h => h) (Or.inl ⟨by rfl, ?_⟩) (by assumption) ?_
    rotate_left
    · (intro w hSw; (try dsimp only at hSw); go_simp; try with_reducible rfl)
    try simp only [Act.put, List.setIfInBounds_toArray, List.set_cons_zero, List.set_cons_succ]
    refine wpAnyH_take (i := 5) (oi := ({ dst := some 16, op := Go.Op.move (Go.Operand.tmp 15), type := 4, pos := "table.go:81", after := #[{ on := 4, ground := Go.Ground.data }], guard := none } : Oper)) (v := ?_) rfl (by kernel_rfl) (by kernel_rfl) (by kernel_rfl) (fun _ _ _ h => h) (Or.inl ⟨by rfl, ?_⟩) (by assumption) ?_
    rotate_left
    · (intro w hSw; (try dsimp only at hSw); go_simp; try with_reducible rfl)
    try simp only [Act.put, List.setIfInBounds_toArray, List.set_cons_zero, List.set_cons_succ]
    refine wpAnyH_take (i := 6) (oi := ({ dst := some 17, op := Go.Op.load 22 (Go.Operand.tmp 2), type := 22, pos := "table.go:81", after := #[{ on := 5, ground := Go.Ground.guard }, { on := 14, ground := Go.Ground.gcOnly Go.Departure.lateStores }], guard := some (5, true) } : Oper)) (v := undef) rfl (by kernel_rfl) (by kernel_rfl) (by kernel_rfl) (fun _ _ _ h => h) (Or.inr ⟨by rfl, rfl⟩) (by assumption) ?_
    try simp only [Act.put, List.setIfInBounds_toArray, List.set_cons_zero, List.set_cons_succ]
    refine wpAnyH_take (i := 7) (oi := ({ dst := some 18, op := Go.Op.move (Go.Operand.tmp 6), type := 3, pos := "table.go:81", after := #[{ on := 5, ground := Go.Ground.guard }, { on := 14, ground := Go.Ground.gcOnly Go.Departure.lateStores }], guard := some (5, true) } : Oper)) (v := undef) rfl (by kernel_rfl) (by kernel_rfl) (by kernel_rfl) (fun _ _ _ h => h) (Or.inr ⟨by rfl, rfl⟩) (by assumption) ?_
    try simp only [Act.put, List.setIfInBounds_toArray, List.set_cons_zero, List.set_cons_succ]
    refine wpAnyH_take (i := 8) (oi := ({ dst := some 19, op := Go.Op.indexAddr 22 (Go.Operand.tmp 17) (Go.Operand.tmp 18), type := 0, pos := "table.go:81", after := #[{ on := 6, ground := Go.Ground.data }, { on := 7, ground := Go.Ground.data }, { on := 5, ground := Go.Ground.guard }, { on := 14, ground := Go.Ground.gcOnly Go.Departure.lateStores }], guard := some (5, true) } : Oper)) (v := undef) rfl (by kernel_rfl) (by kernel_rfl) (by kernel_rfl) (fun _ _ _ h => h) (Or.inr ⟨by rfl, rfl⟩) (by assumption) ?_
    try simp only [Act.put, List.setIfInBounds_toArray, List.set_cons_zero, List.set_cons_succ]
    refine wpAnyH_take (i := 9) (oi := ({ dst := some 20, op := Go.Op.fieldAddr 39 (Go.Operand.tmp 19) 0, type := 0, pos := "table.go:81", after := #[{ on := 8, ground := Go.Ground.data }, { on := 5, ground := Go.Ground.guard }, { on := 14, ground := Go.Ground.gcOnly Go.Departure.lateStores }], guard := some (5, true) } : Oper)) (v := undef) rfl (by kernel_rfl) (by kernel_rfl) (by kernel_rfl) (fun _ _ _ h => h) (Or.inr ⟨by rfl, rfl⟩) (by assumption) ?_
    try simp only [Act.put, List.setIfInBounds_toArray, List.set_cons_zero, List.set_cons_succ]
    refine wpAnyH_take (i := 10) (oi := ({ dst := some 21, op := Go.Op.load 37 (Go.Operand.tmp 20), type := 37, pos := "table.go:81", after := #[{ on := 9, ground := Go.Ground.data }, { on := 5, ground := Go.Ground.guard }, { on := 14, ground := Go.Ground.gcOnly Go.Departure.lateStores }], guard := some (5, true) } : Oper)) (v := undef) rfl (by kernel_rfl) (by kernel_rfl) (by kernel_rfl) (fun _ _ _ h => h) (Or.inr ⟨by rfl, rfl⟩) (by assumption) ?_
    try simp only [Act.put, List.setIfInBounds_toArray, List.set_cons_zero, List.set_cons_succ]
    refine wpAnyH_take (i := 11) (oi := ({ dst := some 22, op := Go.Op.load 37 (Go.Operand.tmp 3), type := 37, pos := "table.go:81", after := #[{ on := 5, ground := Go.Ground.guard }, { on := 14, ground := Go.Ground.gcOnly Go.Departure.lateStores }], guard := some (5, true) } : Oper)) (v := undef) rfl (by kernel_rfl) (by kernel_rfl) (by kernel_rfl) (fun _ _ _ h => h) (Or.inr ⟨by rfl, rfl⟩) (by assumption) ?_
    try simp only [Act.put, List.setIfInBounds_toArray, List.set_cons_zero, List.set_cons_succ]
    refine wpAnyH_take (i := 12) (oi := ({ dst := some 23, op := Go.Op.binOp Go.BinOp.eql 37 (Go.Operand.tmp 21) (Go.Operand.tmp 22) 37, type := 4, pos := "table.go:81", after := #[{ on := 10, ground := Go.Ground.data }, { on := 11, ground := Go.Ground.data }, { on := 5, ground := Go.Ground.guard }, { on := 14, ground := Go.Ground.gcOnly Go.Departure.lateStores }], guard := some (5, true) } : Oper)) (v := undef) rfl (by kernel_rfl) (by kernel_rfl) (by kernel_rfl) (fun _ _ _ h => h) (Or.inr ⟨by rfl, rfl⟩) (by assumption) ?_
    try simp only [Act.put, List.setIfInBounds_toArray, List.set_cons_zero, List.set_cons_succ]
    refine wpAnyH_take (i := 13) (oi := ({ dst := some 24, op := Go.Op.pick (Go.Operand.tmp 16) (Go.Operand.tmp 23) (Go.Operand.const (Go.Value.bool false)), type := 4, pos := "table.go:81", after := #[{ on := 5, ground := Go.Ground.data }, { on := 12, ground := Go.Ground.data }, { on := 14, ground := Go.Ground.gcOnly Go.Departure.lateStores }], guard := none } : Oper)) (v := ?_) rfl (by kernel_rfl) (by kernel_rfl) (by kernel_rfl) (fun _ _ _ h => h) (Or.inl ⟨by rfl, ?_⟩) (by assumption) ?_
    rotate_left
    · (intro w hSw; (try dsimp only at hSw); go_simp; try with_reducible rfl)
    try simp only [Act.put, List.setIfInBounds_toArray, List.set_cons_zero, List.set_cons_succ]
    refine wpAnyH_take (i := 14) (oi := ({ dst := some 4, op := Go.Op.assign (Go.Operand.tmp 11), type := 3, pos := "table.go:81", after := #[{ on := 0, ground := Go.Ground.data }, { on := 5, ground := Go.Ground.chain }, { on := 0, ground := Go.Ground.phase }, { on := 1, ground := Go.Ground.textOnly Go.Departure.lateStores }, { on := 2, ground := Go.Ground.textOnly Go.Departure.lateStores }, { on := 3, ground := Go.Ground.textOnly Go.Departure.lateStoresUnsure }, { on := 4, ground := Go.Ground.textOnly Go.Departure.lateStores }, { on := 5, ground := Go.Ground.textOnly Go.Departure.lateStores }, { on := 6, ground := Go.Ground.textOnly Go.Departure.lateStores }, { on := 7, ground := Go.Ground.textOnly Go.Departure.lateStores }, { on := 8, ground := Go.Ground.textOnly Go.Departure.lateStores }, { on := 9, ground := Go.Ground.textOnly Go.Departure.lateStores }, { on := 10, ground := Go.Ground.textOnly Go.Departure.lateStores }, { on := 11, ground := Go.Ground.textOnly Go.Departure.lateStores }, { on := 12, ground := Go.Ground.textOnly Go.Departure.lateStores }, { on := 13, ground := Go.Ground.textOnly Go.Departure.lateStores }], guard := none } : Oper)) (v := ?_) rfl (by kernel_rfl) (by kernel_rfl) (by kernel_rfl) (fun _ _ _ h => h) (Or.inl ⟨by rfl, ?_⟩) (by assumption) ?_
    rotate_left
    · (intro w hSw; (try dsimp only at hSw); go_simp; try with_reducible rfl)
    try simp only [Act.put, List.setIfInBounds_toArray, List.set_cons_zero, List.set_cons_succ]
    refine wpAnyH_take (i := 15) (oi := ({ dst := some 5, op := Go.Op.assign (Go.Operand.tmp 24), type := 4, pos := "table.go:81", after := #[{ on := 13, ground := Go.Ground.data }, { on := 14, ground := Go.Ground.chain }, { on := 0, ground := Go.Ground.phase }, { on := 1, ground := Go.Ground.phase }, { on := 2, ground := Go.Ground.phase }, { on := 3, ground := Go.Ground.phase }, { on := 4, ground := Go.Ground.phase }, { on := 5, ground := Go.Ground.phase }, { on := 6, ground := Go.Ground.phase }, { on := 7, ground := Go.Ground.phase }, { on := 8, ground := Go.Ground.phase }, { on := 9, ground := Go.Ground.phase }, { on := 10, ground := Go.Ground.phase }, { on := 11, ground := Go.Ground.phase }, { on := 12, ground := Go.Ground.phase }, { on := 13, ground := Go.Ground.phase }, { on := 14, ground := Go.Ground.phase }], guard := none } : Oper)) (v := ?_) rfl (by kernel_rfl) (by kernel_rfl) (by kernel_rfl) (fun _ _ _ h => h) (Or.inl ⟨by rfl, ?_⟩) (by assumption) ?_
    rotate_left
    · (intro w hSw; (try dsimp only at hSw); go_simp; try with_reducible rfl)
    try simp only [Act.put, List.setIfInBounds_toArray, List.set_cons_zero, List.set_cons_succ]
    refine wpAnyH_done (by kernel_rfl) ?_ _
    refine NoPanic.normal ?_
    go_wp2_with fail; go_returns; exact ⟨by rw [HX.out, ← HR.out]; rfl, kk.trans' (by assumption : S1p w1 p (.slice a r c) _).2⟩
end Go.Proofs.Ytjdkeabimcajlaa

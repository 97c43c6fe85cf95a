/- Pf Sp Sg De Tp -/
import Derived.Test.YtpocegdlobnhaaaGA
import Derived.StillTailTactics
import Derived.Laws.IdiomStrings
import Derived.Test.YtpocegdlobnhaaaCH
section
/- What lies while a reader goes that may give up; how a function that defers ends. -/
set_option linter.unusedVariables false
set_option linter.unusedSimpArgs false
set_option maxRecDepth 100000
namespace Go.Proofs.Ytpocegdlobnhaaa
open Go.RowKit
open Cod (RdAt RS)

def isRow : TypeDesc → Bool
  | .struct _ | .array _ _ => true
  | _ => false
theorem results_cc {P : Program} {fn : Func} {p u : Tmp} {ty tb : TypeId} (h : fn.results = #[.cell p ty, .cell u tb]) (tmps : Array Value) (w : World) (g gb : Nat) (t : TypeId) (cs : Array Value) (fr : Nat × Nat) (d : TypeDesc)
    (hp : tmps.getD p undef = .pointer (some ⟨g, 0, none⟩)) (hg : w.heap[g]? = some (.cells cs t fr))
    (hu : P.underlying ty = some d) (hd : (match d with | .struct _ | .array _ _ => true | _ => false) = true) (hi : (P.info? ty).map (·.size) = some cs.size) (b : Value) (hb : tmps.getD u undef = .pointer (some ⟨gb, 0, none⟩)) (hl : (loadVar tb ⟨gb, 0, none⟩).run P w = .ok b w) :
    (results fn tmps).run P w = .ok (.tuple #[.agg cs, b]) w := by
  have hp' : tmps[p]?.getD undef = .pointer (some ⟨g, 0, none⟩) := by simpa using hp
  have hb' : tmps[u]?.getD undef = .pointer (some ⟨gb, 0, none⟩) := by simpa using hb
  simp [results, h, hp', hb', asAddr, run_loadVar_row w g t ty cs fr d hg hu hd hi, hl]
theorem load_bool {w : World} {p : Nat} {b : Bool} (h : Blk w p #[.bool b] 4) : (loadVar 4 ⟨p, 0, none⟩).run Try.prog w = .ok (.bool b) w := by
  have c := h.cell (i := 0) rfl
  simp [go_sem, c]
theorem door {fn : Func} {ty : TypeId} {R : Ending → World → Prop} {tmps : Array Value} {W : World} {A B : Nat} {cs : List Value} {d : TypeDesc} (hres : fn.results = #[.cell 2 ty, .cell 3 4])
    (h2 : tmps.getD 2 undef = .pointer (some ⟨A, 0, none⟩)) (h3 : tmps.getD 3 undef = .pointer (some ⟨B, 0, none⟩))
    (hA : Blk W A cs.toArray ty) (hB : Blk W B #[.bool false] 4) (hAB : A ≠ B) (hu : Try.prog.underlying ty = some d) (hd : isRow d = true) (hi : (Try.prog.info? ty).map (·.size) = some cs.length)
    (hR : ∀ W', Keep [B] W W' → R (.returned (.tuple #[.agg cs.toArray, .bool false])) W') : Leaves Try.prog fn tmps R [{ target := .fn (.func 83) #[], args := #[.pointer (some ⟨B, 0, none⟩)] }] (.panicking [gone]) W := by
  refine leaves_cons (f := 83) (args := #[.pointer (some ⟨B, 0, none⟩)]) (by simp) (by simp [go_sem]) ?_
  refine (catch_gone B W _ hB).mono ?_
  rintro e u' w'' ⟨rfl, rfl, g2, gk⟩
  have g1 := hA.keep gk (by simpa using hAB)
  simp only [settle, goneR, List.dropWhile_nil, Leaves]
  exact ⟨_, results_cc hres _ _ A B ty cs.toArray (0, 0) d h2 g1 hu (by cases d <;> first | rfl | (cases hd)) (by simpa using hi) _ h3 (load_bool g2), hR _ gk⟩
theorem door_ok {fn : Func} {ty : TypeId} {R : Ending → World → Prop} {tmps : Array Value} {W : World} {A B : Nat} {cs : List Value} {d : TypeDesc} (hres : fn.results = #[.cell 2 ty, .cell 3 4])
    (h2 : tmps.getD 2 undef = .pointer (some ⟨A, 0, none⟩)) (h3 : tmps.getD 3 undef = .pointer (some ⟨B, 0, none⟩))
    (hA : Blk W A cs.toArray ty) (hB : Blk W B #[.bool true] 4) (hu : Try.prog.underlying ty = some d) (hd : isRow d = true) (hi : (Try.prog.info? ty).map (·.size) = some cs.length)
    (hR : R (.returned (.tuple #[.agg cs.toArray, .bool true])) W) : Leaves Try.prog fn tmps R [{ target := .fn (.func 83) #[], args := #[.pointer (some ⟨B, 0, none⟩)] }] .returning W := by
  refine leaves_cons (f := 83) (args := #[.pointer (some ⟨B, 0, none⟩)]) (by simp) (by simp [go_sem]) ?_
  refine (catch_idle ⟨B, 0, none⟩ W).mono ?_
  rintro e u' w'' ⟨rfl, rfl, rfl⟩
  simp only [settle, Leaves]
  exact ⟨_, results_cc hres _ _ A B ty cs.toArray (0, 0) d h2 hA hu (by cases d <;> first | rfl | (cases hd)) (by simpa using hi) _ h3 (load_bool hB), hR⟩
theorem leaves_same {P : Program} {fn : Func} {t t' : Array Value} {R : Ending → World → Prop} (h : results fn t = results fn t') : ∀ ds u w, Leaves P fn t R ds u w = Leaves P fn t' R ds u w := by
  intro ds
  induction ds with
  | nil => intro u w; cases u <;> simp only [Leaves, h]
  | cons d ds ih => intro u w; simp only [Leaves, ih]
theorem back23 {fn : Func} {ty : TypeId} (hres : fn.results = #[.cell 2 ty, .cell 3 4]) {R : Ending → World → Prop} (i : Nat) (h2 : i ≠ 2) (h3 : i ≠ 3) (c : List PanicEntry) (a : Act) (v : Value) (w : World) (h : bodyPostD Try.prog fn R (.panic c) (a.put (some i) v) w) : bodyPostD Try.prog fn R (.panic c) a w := by
  have hr : results fn (a.tmps.setIfInBounds i v) = results fn a.tmps := by simp [results, hres, Array.getElem?_setIfInBounds, h2, h3]
  have e := leaves_same (P := Try.prog) (R := R) hr a.defers (.panicking c) w
  exact e.mp h

/-- Which blocks are whose: the two results' (A, B), the reader's box (C), the reader's own (P, S). -/
structure PF (w : World) (A B C P : Nat) (S : List Nat) : Prop where
  a : w.heap.size ≤ A
  b : w.heap.size ≤ B
  c : w.heap.size ≤ C
  s : ∀ x ∈ S, w.heap.size ≤ x
  p : P ∈ S
  ab : A ≠ B
  ac : A ≠ C
  bc : B ≠ C
  na : A ∉ S
  nb : B ∉ S
  nc : C ∉ S
/-- What lies while it goes. -/
structure PS (w : World) (A : Nat) (ty : TypeId) (cs : List Value) (B C P : Nat) (S : List Nat) (d : List UInt8) (s : RS) (W : World) : Prop where
  ba : Blk W A cs.toArray ty
  bb : Blk W B #[.bool false] 4
  bc : Blk W C #[.pointer (some ⟨P, 0, none⟩)] 140
  rd : RdAt W P S d s
  k : Keep [] w W
section
variable {w W W' : World} {A B C P : Nat} {ty : TypeId} {cs cs' : List Value} {S T : List Nat} {d : List UInt8} {s s' : RS}
theorem PF.pw (f : PF w A B C P S) : w.heap.size ≤ P := f.s P f.p
theorem PF.ap (f : PF w A B C P S) : A ≠ P := fun e => f.na (e ▸ f.p)
theorem PF.bp (f : PF w A B C P S) : B ≠ P := fun e => f.nb (e ▸ f.p)
theorem PF.cp (f : PF w A B C P S) : C ≠ P := fun e => f.nc (e ▸ f.p)
theorem PS.read (h : PS w A ty cs B C P S d s W) (f : PF w A B C P S) (k : Keep [P] W W') (r : RdAt W' P S d s') : PS w A ty cs B C P S d s' W' :=
  ⟨h.ba.keep k (by simpa using f.ap), h.bb.keep k (by simpa using f.bp), h.bc.keep k (by simpa using f.cp), r, h.k.trans k (fun b hb => by simp only [List.mem_singleton] at hb; subst hb; exact Or.inr f.pw)⟩
theorem PS.keep (h : PS w A ty cs B C P S d s W) (k : Keep T W W') (hT : ∀ b ∈ T, b ≠ A ∧ b ≠ B ∧ b ≠ C ∧ b ∉ S ∧ w.heap.size ≤ b) : PS w A ty cs B C P S d s W' :=
  ⟨h.ba.keep k (fun hb => (hT _ hb).1 rfl), h.bb.keep k (fun hb => (hT _ hb).2.1 rfl), h.bc.keep k (fun hb => (hT _ hb).2.2.1 rfl), h.rd.keep k (fun b hb hb' => (hT b hb').2.2.2.1 hb), h.k.trans k (fun b hb => Or.inr (hT b hb).2.2.2.2)⟩
theorem PS.keep0 (h : PS w A ty cs B C P S d s W) (k : Keep [] W W') : PS w A ty cs B C P S d s W' := h.keep k (by simp)
theorem PS.drew (h : PS w A ty cs B C P S d s W) : PS w A ty cs B C P S d s W.drew := h.keep0 ((Keep.refl [] W).drew)
theorem PS.put (h : PS w A ty cs B C P S d s W) (f : PF w A B C P S) (k : Keep [A] W W') (hA : Blk W' A cs'.toArray ty) : PS w A ty cs' B C P S d s W' :=
  ⟨hA, h.bb.keep k (by simpa using f.ab.symm), h.bc.keep k (by simpa using f.ac.symm), h.rd.keep k (fun b hb => by simp only [List.mem_singleton]; rintro rfl; exact f.na hb), h.k.trans k (fun b hb => by simp only [List.mem_singleton] at hb; subst hb; exact Or.inr f.a)⟩
end
end Go.Proofs.Ytpocegdlobnhaaa
end
section
/- What a reader of signatures takes (plain). -/
set_option linter.unusedVariables false
set_option linter.unusedSimpArgs false
namespace Go.Proofs.Ytpocegdlobnhaaa
open Go.RowKit
open Cod (RdAt RS)
def padT (ys : List UInt8) : List UInt8 := padId (ys.take 32)
theorem padT_len (ys : List UInt8) : (padT ys).length = 32 := padId_len (by simp [List.length_take]; omega)
theorem padT_eq {ys : List UInt8} (h : ys.length ≤ 32) : padT ys = padId ys := by rw [padT, List.take_of_length_le h]
def takeW (d : List UInt8) (wd : Nat) (s : RS) : Wk × RS :=
  (⟨(Cod.rFixed d s 4).1, padT (Cod.rRaw d (Cod.rFixed d s 4).2 wd).1, padT_len _⟩, (Cod.rRaw d (Cod.rFixed d s 4).2 wd).2)
def manyW (d : List UInt8) (wd : Nat) (s0 : RS) : Nat → List Wk × RS
  | 0 => ([], s0)
  | k + 1 => ((manyW d wd s0 k).1 ++ [(takeW d wd (manyW d wd s0 k).2).1], (takeW d wd (manyW d wd s0 k).2).2)
/-- The head of a signature: its mark is read, then three numbers. -/
def hdS (d : List UInt8) : RS := (Cod.rFixed d ⟨0, 0, 0⟩ 1).2
def hdW (d : List UInt8) : Nat × RS := Cod.rNumber d (hdS d)
def hdZ (d : List UInt8) : Nat × RS := Cod.rNumber d (hdW d).2
def hdL (d : List UInt8) : Nat × RS := Cod.rNumber d (hdZ d).2
def okH (wd sz ln : Nat) : Bool := okW wd && okS sz && decide (ln ≤ 131072) && decide (ln / sz ≤ 2048)
/-- What signature takes of what stands ahead of the sum. -/
def sigB (d : List UInt8) : Option Sg :=
  if (Cod.rFixed d ⟨0, 0, 0⟩ 1).1 = 83 ∧ (hdS d).code = 0 then
    if okH (hdW d).1 (hdZ d).1 (hdL d).1 = true ∧ (hdL d).2.code = 0 then
      if Cod.rLeft d (manyW d (hdW d).1 (Cod.rRaw d (hdL d).2 (hdW d).1).2 ((hdL d).1 / (hdZ d).1)).2 = 0 ∧ (manyW d (hdW d).1 (Cod.rRaw d (hdL d).2 (hdW d).1).2 ((hdL d).1 / (hdZ d).1)).2.code = 0 then
        some ⟨(hdW d).1, (hdZ d).1, (hdL d).1, padT (Cod.rRaw d (hdL d).2 (hdW d).1).1, (manyW d (hdW d).1 (Cod.rRaw d (hdL d).2 (hdW d).1).2 ((hdL d).1 / (hdZ d).1)).1, padT_len _⟩
      else none
    else none
  else none
def sigO (d : List UInt8) : Option Sg := if ckO d = true then sigB (d.take (d.length - 4)) else none
/-- What signature gives. -/
def GiveS (w : World) (r : Option Sg) (e : Ending) (w' : World) : Prop :=
  Keep [] w w' ∧ match r with
  | none => ∃ s a n c, e = .returned (.tuple #[.agg (Sg.cells s a n c).toArray, .bool false])
  | some s => ∃ a n c, e = .returned (.tuple #[.agg (s.cells a n c).toArray, .bool true]) ∧ s.blocks.length = n ∧ Sl w' 45 33 (.slice a n c) n (cellsW s.blocks) ∧ Fr w [] (blks (.slice a n c))
section
variable {ops : Array Oper} {o : Oper} {a : Act} {w : World} {K : Act → World → Prop} {Q : Exit → Act → World → Prop} {E : Prop}
theorem step_built3 (hgd : o.guard = none) (t : TypeId) (x y z : Operand) (ho : o.op = .build t #[(0, x), (1, y), (2, z)]) (u v s : Value) (hx : a.eval x = u) (hy : a.eval y = v) (hz : a.eval z = s) (cells : Array Value) (hb : Try.prog.built t [(0, u), (1, v), (2, s)] = some cells)
    (h : K (a.put o.dst (.agg cells)) w) : if Region.wanted o (yielded ops a.tmps) = true then Oper.wp Try.prog o a w K Q else E := by
  have e : ((#[(0, x), (1, y), (2, z)] : Array (Nat × Operand)).map fun (i, x) => (i, a.eval x)).toList = [(0, u), (1, v), (2, s)] := by simp [hx, hy, hz]
  refine step_of hgd (wp_build t #[(0, x), (1, y), (2, z)] ho (by rw [e, hb]; rfl) ?_)
  rw [e, hb]; exact h
theorem step_storeAll (hgd : o.guard = none) (ty : TypeId) (x y : Operand) (ho : o.op = .store ty x y) (p : Nat) (t : TypeId) (cs old : List Value)
    (hx : a.eval x = .pointer (some ⟨p, 0, none⟩)) (hy : a.eval y = .agg cs.toArray) (hB : Blk w p old.toArray t) (hl : old.length = cs.length) (h1 : ∀ v ∈ cs, v.oneCell' = true) (hi : (Try.prog.info? ty).map (·.size) = some cs.length)
    (h : ∀ w', Blk w' p cs.toArray t → Keep [p] w w' → K (a.put o.dst undef) w') : if Region.wanted o (yielded ops a.tmps) = true then Oper.wp Try.prog o a w K Q else E := by
  obtain ⟨ht, hb, hk⟩ := set_blk hB hl h1
  exact step_of hgd (wp_store_mid ty x y ho p 0 cs.toArray hx hy (by simpa using ht) (by simpa using hi) (all_oneCell_toArray h1) (h _ (by simpa using hb) (by simpa using hk)))
end
end Go.Proofs.Ytpocegdlobnhaaa
end
section
/- signature: the walk. -/
set_option linter.unusedVariables false
set_option linter.unusedSimpArgs false
set_option maxRecDepth 100000
namespace Go.Proofs.Ytpocegdlobnhaaa
open Go.RowKit
open Cod (RdAt RS)
/-- What holds ahead of the i-th block. -/
def PL (w : World) (A B C P : Nat) (S : List Nat) (d : List UInt8) (wd sz ln : Nat) (ys : List UInt8) (hy : ys.length = 32) (s5 : RS) (n : Nat) (v : Value) (wr : World) : Prop :=
  ∃ (i : Nat) (l : List Wk) (s : RS) (ao : Option Addr) (co : Nat), i ≤ n ∧ v = .int .i64 (i : Nat) ∧ Hid (manyW d wd s5 i = (l, s)) ∧ PS w A 29 ((Sg.mk (wd : Nat) (sz : Nat) (ln : Nat) ys [] hy).cells ao i co) B C P S d s wr ∧ Sl wr 45 33 (.slice ao i co) i (cellsW l) ∧ ∀ b ∈ blks (.slice ao i co), b ≠ A ∧ b ≠ B ∧ b ≠ C ∧ b ∉ S ∧ w.heap.size ≤ b
end Go.Proofs.Ytpocegdlobnhaaa
end
section
/- Decode: the walk. -/
set_option linter.unusedVariables false
set_option linter.unusedSimpArgs false
set_option maxRecDepth 100000
namespace Go.Proofs.Ytpocegdlobnhaaa
open Go.RowKit
/-- What Decode takes. -/
def decO (D : List UInt8) : Option Sg := match sigO D with
  | none => none
  | some s => if encZ s = 0 ∧ encX s = D then some s else none
def decS (D : List UInt8) : Sg := (decO D).getD zeroG
def decC (D : List UInt8) : Int := if (decO D).isSome then 0 else 180
end Go.Proofs.Ytpocegdlobnhaaa
end
section
/- Instructions: in memory, and as a reader takes them (plain). -/
set_option linter.unusedVariables false
set_option linter.unusedSimpArgs false
set_option maxRecDepth 100000
namespace Go.Proofs.Ytpocegdlobnhaaa
open Go.RowKit
open Cod (RdAt RS)
/-- An instruction: blocks that are copied, or bytes that are laid. -/
inductive StepP where
  | cp (f c : Nat)
  | lit (ys : List UInt8)
def StepP.len (sz : Nat) : StepP → Nat
  | .cp _ c => c * sz
  | .lit ys => ys.length
def stb : Value → List Nat
  | .iface _ (.agg cs) => cs.toList.flatMap blks
  | _ => []
def StIs (w : World) (v : Value) : StepP → Prop
  | .cp f c => v = .iface 95 (.agg #[.int .i64 (f : Nat), .int .i64 (c : Nat)])
  | .lit ys => ∃ a n c, v = .iface 97 (.agg #[.slice a n c]) ∧ InBytes w a n c ys
theorem stb_lit (a : Option Addr) (n c : Nat) : stb (.iface 97 (.agg #[.slice a n c])) = blks (.slice a n c) := by simp [stb]
theorem ablk_mem {w : World} {a : Option Addr} {n c : Nat} {ys : List UInt8} (h : InBytes w a n c ys) (hy : ys ≠ []) : ablk a ∈ blks (.slice a n c) := by
  have hl : 0 < ys.length := List.length_pos_iff.2 hy
  obtain ⟨b, off, rfl, -⟩ := h.rd.byte (k := 0) hl
  simp [blks, Value.ownBlock, ablk]
theorem StIs.keep {w w' : World} {T : List Nat} {v : Value} {x : StepP} (h : StIs w v x) (k : Keep T w w') (hT : ∀ b ∈ stb v, b ∉ T) : StIs w' v x := by
  cases x with
  | cp f c => exact h
  | lit ys =>
    obtain ⟨a, n, c, rfl, hI⟩ := h
    rw [stb_lit] at hT
    exact ⟨a, n, c, rfl, hI.keep k (fun hy => hT _ (ablk_mem hI hy))⟩
/-- A list of them. -/
structure StL (w : World) (vs : List Value) (xs : List StepP) : Prop where
  len : vs.length = xs.length
  each : ∀ (i : Nat) (x : StepP), xs[i]? = some x → ∃ v, vs[i]? = some v ∧ StIs w v x
theorem StL.nil (w : World) : StL w [] [] := ⟨rfl, fun i x h => by simp at h⟩
theorem StL.keep {w w' : World} {T : List Nat} {vs : List Value} {xs : List StepP} (h : StL w vs xs) (k : Keep T w w') (hT : ∀ v ∈ vs, ∀ b ∈ stb v, b ∉ T) : StL w' vs xs :=
  ⟨h.len, fun i x hx => by obtain ⟨v, hv, hs⟩ := h.each i x hx; exact ⟨v, hv, hs.keep k (hT v (List.mem_of_getElem? hv))⟩⟩
theorem StL.snoc {w : World} {vs : List Value} {xs : List StepP} {v : Value} {x : StepP} (h : StL w vs xs) (hv : StIs w v x) : StL w (vs ++ [v]) (xs ++ [x]) :=
  ⟨by simp [h.len], fun i y hy => by
    by_cases hi : i < xs.length
    · rw [List.getElem?_append_left hi] at hy
      obtain ⟨u, hu, hs⟩ := h.each i y hy
      exact ⟨u, by rw [List.getElem?_append_left (by rw [h.len]; exact hi)]; exact hu, hs⟩
    · have : i = xs.length := by
        have := (List.getElem?_eq_some_iff.1 hy).1; simp at this; omega
      subst this
      rw [List.getElem?_append_right (Nat.le_refl _), Nat.sub_self] at hy
      obtain rfl : x = y := by simpa using hy
      exact ⟨v, by rw [List.getElem?_append_right (by rw [h.len]; exact Nat.le_refl _), h.len, Nat.sub_self]; rfl, hv⟩⟩
/-- An instruction, as a reader takes it; the base has so many blocks. -/
def stepO (d : List UInt8) (s : RS) (bl : Nat) : Option (StepP × RS) :=
  if (Cod.rFixed d s 1).1 = 1 then
    if (1 ≤ (Cod.rNumber d (Cod.rNumber d (Cod.rFixed d s 1).2).2).1 ∧ (Cod.rNumber d (Cod.rFixed d s 1).2).1 < bl ∧ (Cod.rNumber d (Cod.rNumber d (Cod.rFixed d s 1).2).2).1 ≤ bl - (Cod.rNumber d (Cod.rFixed d s 1).2).1) ∧ (Cod.rNumber d (Cod.rNumber d (Cod.rFixed d s 1).2).2).2.code = 0 then
      some (.cp (Cod.rNumber d (Cod.rFixed d s 1).2).1 (Cod.rNumber d (Cod.rNumber d (Cod.rFixed d s 1).2).2).1, (Cod.rNumber d (Cod.rNumber d (Cod.rFixed d s 1).2).2).2)
    else none
  else if (Cod.rFixed d s 1).1 = 2 then
    if 0 < (Cod.rText d (Cod.rFixed d s 1).2 131072).1.length ∧ (Cod.rText d (Cod.rFixed d s 1).2 131072).2.code = 0 then
      some (.lit (Cod.rText d (Cod.rFixed d s 1).2 131072).1, (Cod.rText d (Cod.rFixed d s 1).2 131072).2)
    else none
  else none
/-- What step gives. -/
def GiveT (w : World) (P : Nat) (S : List Nat) (d : List UInt8) (r : Option (StepP × RS)) (e : Ending) (w' : World) : Prop :=
  Keep [P] w w' ∧ match r with
  | none => e = .panicked [gone]
  | some (x, s) => ∃ v, e = .returned v ∧ StIs w' v x ∧ RdAt w' P S d s ∧ Fr w [] (stb v) ∧ ∀ b ∈ stb v, b < w'.heap.size
theorem num_max (d : List UInt8) (s : RS) : (Cod.rNumber d s).1 ≤ 2147483647 := by
  have hok := Cod.numGo_ok (d.drop s.at') 5 0 0 rfl
  unfold Cod.rNumber
  split
  · split
    · rename_i h; exact (hok.ok h).1
    · exact Nat.zero_le _
  · exact Nat.zero_le _
theorem text_max (d : List UInt8) (s : RS) (m : Int) : (Cod.rText d s m).1.length ≤ d.length := by
  unfold Cod.rText
  split
  · split
    · simp
    · split
      · simp [List.length_take, List.length_drop]; omega
      · simp
  · simp
end Go.Proofs.Ytpocegdlobnhaaa
end

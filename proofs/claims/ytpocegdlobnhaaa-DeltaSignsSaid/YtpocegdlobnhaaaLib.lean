/- General lemmas on worlds: blocks of cells, what a call keeps, lists of bytes in memory. No program in sight. -/
import Derived.WalkKit
import Derived.ProofKit
import Derived.OpenShut
import Derived.Handy
import Derived.BigQuiet
import Derived.Deep.RegionHeld3
import Derived.Lib.Hide
import Derived.Lib.SliceRun
import Derived.WalkSpells
import Derived.Laws.AppendOwnNone
import Derived.Laws.CopyOwn
import Derived.Deep.DeepCutAuto
import Derived.Deep.OwnRows
import Derived.Deep.DeepMust
namespace Go.Proofs.Ytpocegdlobnhaaa
open Go.RowKit

/-- Block b is a row of these cells, none frozen. -/
def Blk (w : World) (b : Nat) (c : Array Value) (t : TypeId) : Prop := w.heap[b]? = some (.cells c t (0, 0))

section
variable {w w' : World} {b g i : Nat} {c : Array Value} {t : TypeId} {v u : Value}

theorem Blk.cell (h : Blk w b c t) (hi : c[i]? = some v) : w.cell? ⟨b, i, none⟩ = some v := (cell_of_row w b i c t (0, 0) h).trans hi
theorem Blk.free (h : Blk w b c t) : w.frozen? ⟨b, i, none⟩ = false := frozen_of_row w b i c t h
theorem Blk.lt (h : Blk w b c t) : b < w.heap.size := lt_of_block h
theorem Blk.of_eq (h : Blk w b c t) (e : w'.heap[b]? = w.heap[b]?) : Blk w' b c t := by unfold Blk at *; rw [e]; exact h
theorem Blk.drew (h : Blk w b c t) : Blk w.drew b c t := h
theorem Blk.drewN (h : Blk w b c t) {n : Nat} : Blk (w.drewN n) b c t := h
theorem Blk.alloc (h : Blk w b c t) (o : Obj) : Blk (w.alloc o) b c t := h.of_eq (Below.heap_alloc w o b h.lt)
theorem Blk.new (w : World) (c : Array Value) (t : TypeId) : Blk (w.alloc (.cells c t)) w.heap.size c t := heap_alloc_new w _
theorem Blk.new' (w : World) (c : Array Value) (t : TypeId) (hb : b = w.heap.size) : Blk (w.alloc (.cells c t)) b c t := by subst hb; exact heap_alloc_new w _
theorem Blk.set (h : Blk w b c t) (i : Nat) (v : Value) : Blk (w.setCell ⟨b, i, none⟩ v) b (c.setIfInBounds i v) t := heap_setCell_same w b i c t v h
theorem Blk.setOther (h : Blk w b c t) {a : Addr} (ha : b ≠ a.block) (v : Value) : Blk (w.setCell a v) b c t := h.of_eq (heap_setCell_other w a b v ha)
theorem Blk.eq (h : Blk w b c t) {c' : Array Value} {t' : TypeId} (h' : Blk w b c' t') : c = c' ∧ t = t' := by
  unfold Blk at *; rw [h] at h'; simp only [Option.some.injEq, Obj.cells.injEq, and_true] at h'; exact h'
end

/-- What a store makes of a block. -/
def objSet (a : Addr) (v : Value) : Obj → Obj
  | .cells c e f => .cells (if a.spot.isSome then c else c.setIfInBounds a.off v) e f
  | o => o
theorem objSet_cells (b i : Nat) (v : Value) (c : Array Value) (e : TypeId) (f : Nat × Nat) : objSet ⟨b, i, none⟩ v (.cells c e f) = .cells (c.setIfInBounds i v) e f := rfl
theorem heap_setCell_if (w : World) (a : Addr) (v : Value) (k : Nat) : (w.setCell a v).heap[k]? = if k = a.block then (w.heap[k]?).map (objSet a v) else w.heap[k]? := by
  simp only [World.setCell, Array.getElem?_modify]
  by_cases h : a.block = k
  · subst h; simp only [if_true]; rfl
  · rw [if_neg h, if_neg (fun e => h e.symm)]
theorem heap_drewN (w : World) (n : Nat) : (w.drewN n).heap = w.heap := rfl
theorem heap_drew' (w : World) : w.drew.heap = w.heap := rfl
theorem heap_alloc_if (w : World) (o : Obj) (k : Nat) : (w.alloc o).heap[k]? = if k = w.heap.size then some o else w.heap[k]? := by
  show (w.heap.push o)[k]? = _
  rw [Array.getElem?_push]
theorem Blk.hp {w : World} {b : Nat} {c : Array Value} {t : TypeId} (h : Blk w b c t) : w.heap[b]? = some (.cells c t (0, 0)) := h

/-- Behind a step the streams are as they were, and so are all blocks that were there, but those of S. -/
structure Keep (S : List Nat) (w w' : World) : Prop where
  os : w'.os = w.os
  tape : w'.tape = w.tape
  output : w'.output = w.output
  size : w.heap.size ≤ w'.heap.size
  block : ∀ k, k < w.heap.size → k ∉ S → w'.heap[k]? = w.heap[k]?

section
variable {w w' w'' : World} {S T : List Nat} {b g i : Nat} {c : Array Value} {t : TypeId} {v u : Value}
theorem Keep.refl (S : List Nat) (w : World) : Keep S w w := ⟨rfl, rfl, rfl, Nat.le_refl _, fun _ _ _ => rfl⟩
theorem Keep.drew (h : Keep S w w') : Keep S w w'.drew := ⟨h.os, h.tape, h.output, h.size, h.block⟩
theorem Keep.drewN (h : Keep S w w') {n : Nat} : Keep S w (w'.drewN n) := ⟨h.os, h.tape, h.output, h.size, h.block⟩
theorem Keep.alloc (h : Keep S w w') (o : Obj) : Keep S w (w'.alloc o) :=
  ⟨h.os, h.tape, h.output, by have := h.size; simp; omega, fun k hk hS => (Below.heap_alloc w' o k (Nat.lt_of_lt_of_le hk h.size)).trans (h.block k hk hS)⟩
theorem Keep.set (h : Keep S w w') {a : Addr} (ha : a.block ∈ S ∨ w.heap.size ≤ a.block) (v : Value) : Keep S w (w'.setCell a v) :=
  ⟨h.os, h.tape, h.output, by have := h.size; simp; omega, fun k hk hS => (heap_setCell_other w' a k v (by rintro rfl; rcases ha with ha | ha; exact hS ha; omega)).trans (h.block k hk hS)⟩
theorem Keep.trans (h : Keep S w w') (k : Keep T w' w'') (hT : ∀ b ∈ T, b ∈ S ∨ w.heap.size ≤ b) : Keep S w w'' :=
  ⟨k.os.trans h.os, k.tape.trans h.tape, k.output.trans h.output, Nat.le_trans h.size k.size, fun i hi hS =>
    (k.block i (Nat.lt_of_lt_of_le hi h.size) (fun ht => by rcases hT i ht with h1 | h1; exact hS h1; omega)).trans (h.block i hi hS)⟩
theorem Keep.trans' (h : Keep S w w') (k : Keep [] w' w'') : Keep S w w'' := h.trans k (by simp)
theorem Keep.mono (h : Keep S w w') (hS : ∀ b ∈ S, b ∈ T ∨ w.heap.size ≤ b) : Keep T w w' :=
  ⟨h.os, h.tape, h.output, h.size, fun k hk hT => h.block k hk (fun hs => by rcases hS k hs with h1 | h1; exact hT h1; omega)⟩
theorem Keep.below (h : Keep S w w') (hS : ∀ b ∈ S, w.heap.size ≤ b) : Below w.heap.size w w' :=
  ⟨h.os, h.tape, h.output, h.size, fun k hk => h.block k hk (fun hs => by have := hS k hs; omega)⟩
theorem Keep.of_below (h : Below w.heap.size w w') : Keep [] w w' := ⟨h.os, h.tape, h.output, h.size, fun k hk _ => h.block k hk⟩
theorem Keep.of_grown {row : Option Nat} (hg : w.grownBy w' row) (hr : ∀ k, row = some k → k ∈ S ∨ w.heap.size ≤ k) : Keep S w w' :=
  ⟨hg.os, hg.tape, hg.output, hg.size, fun k hk hS => hg.block k hk (fun e => by rcases hr k e.symm with h | h; exact hS h; omega)⟩
theorem Blk.keep (h : Blk w b c t) (k : Keep S w w') (hb : b ∉ S) : Blk w' b c t := h.of_eq (k.block b h.lt hb)
theorem Keep.cell (k : Keep S w w') {a : Addr} (h : w.cell? a = some v) (hb : a.block ∉ S) : w'.cell? a = some v :=
  (World.cell?_of_block (w := w) (k.block a.block (World.block_lt_of_cell? w a h) hb)).trans h
theorem Keep.set_one (w : World) (a : Addr) (v : Value) : Keep [a.block] w (w.setCell a v) := (Keep.refl _ _).set (by simp) v
end

/-- A slice's cells as far as its length goes: nothing is asked where it is empty. -/
def Rd (w : World) (a : Option Addr) (vs : List Value) : Prop :=
  vs = [] ∨ ∃ b off, a = some ⟨b, off, none⟩ ∧ ∀ k v, vs[k]? = some v → w.cell? ⟨b, off + k, none⟩ = some v

/-- The block of a slice's cells (0 of nil). -/
def ablk : Option Addr → Nat
  | some a => a.block
  | none => 0

section
variable {w w' : World} {S : List Nat} {a : Option Addr} {vs : List Value}
theorem Rd.nil : Rd w a [] := Or.inl rfl
theorem Rd.keep (h : Rd w a vs) (k : Keep S w w') (ha : vs ≠ [] → ablk a ∉ S) : Rd w' a vs := by
  rcases h with h | ⟨b, off, rfl, h⟩
  · exact Or.inl h
  · by_cases e : vs = []
    · exact Or.inl e
    · exact Or.inr ⟨b, off, rfl, fun j v hv => k.cell (h j v hv) (ha e)⟩
theorem Rd.at {k : Nat} (h : Rd w a vs) (hk : k < vs.length) : ∃ b off, a = some ⟨b, off, none⟩ ∧ w.cell? ⟨b, off + k, none⟩ = some vs[k] := by
  rcases h with rfl | ⟨b, off, rfl, h⟩
  · simp at hk
  · exact ⟨b, off, rfl, h k _ (List.getElem?_eq_getElem hk)⟩
theorem Rd.lt {k : Nat} (h : Rd w a vs) (hk : k < vs.length) : ablk a < w.heap.size := by
  obtain ⟨b, off, rfl, hc⟩ := h.at hk
  exact World.block_lt_of_cell? w (a := ⟨b, off + k, none⟩) hc
theorem Rd.drewN (h : Rd w a vs) {n : Nat} : Rd (w.drewN n) a vs := h
theorem Rd.of_blk {b : Nat} {t : TypeId} {vs' : List Value} (h : Blk w b vs'.toArray t) (off : Nat) (hv : ∀ k v, vs[k]? = some v → vs'[off + k]? = some v) : Rd w (some ⟨b, off, none⟩) vs :=
  Or.inr ⟨b, off, rfl, fun k v hk => h.cell (by simpa using hv k v hk)⟩
end

/-- A byte as a cell. -/
abbrev B8 (x : UInt8) : Value := .int .u8 x.toNat
abbrev bs (xs : List UInt8) : List Value := xs.map B8

theorem Rd.byte {w : World} {a : Option Addr} {xs : List UInt8} {k : Nat} (h : Rd w a (bs xs)) (hk : k < xs.length) : ∃ b off, a = some ⟨b, off, none⟩ ∧ w.cell? ⟨b, off + k, none⟩ = some (B8 xs[k]) := by
  obtain ⟨b, off, e, hc⟩ := h.at (k := k) (by simpa using hk)
  exact ⟨b, off, e, by simpa using hc⟩

/-! ### The builtin copy -/
section
open Go
variable {P : Program} {w : World} {ops : Array Oper} {rest : List Oper} {o : Oper} {a : Act} {Q : Exit → Act → World → Prop}
theorem wpList_copyB (hgd : o.guard = none) (d s : Operand) (dT sT : TypeId)
    (ho : o.op = .call { callee := .builtin .copy, args := #[d, s], argTypes := #[dT, sT] }) (elem : TypeId) (hu : P.underlying dT = some (.slice elem)) (hsz : (P.info? elem).map (·.size) = some 1)
    (dp sp : Option Addr) (dLen dCap sLen sCap : Nat) (hd : a.eval d = .slice dp dLen dCap) (hs : a.eval s = .slice sp sLen sCap)
    (g off : Nat) (cur : List Value) (t : TypeId) (hg : Blk w g cur.toArray t) (cs : List Value) (hn : cs.length = Nat.min sLen dLen)
    (hdp : 0 < cs.length → dp = some ⟨g, off, none⟩) (hrd : Rd w sp cs) (hfit : off + cs.length ≤ cur.length) (h1 : ∀ v ∈ cs, v.oneCell' = true)
    (h : ∀ w', Hid (Blk w' g (cur.take off ++ (cs ++ cur.drop (off + cs.length))).toArray t) → Keep [g] w w' → w'.heap.size = w.heap.size → wpList P ops Q rest (a.put o.dst (goInt cs.length)) w') :
    wpList P ops Q (o :: rest) a w := by
  by_cases h0 : cs.length = 0
  · obtain rfl : cs = [] := List.eq_nil_of_length_eq_zero h0
    refine wpList_copy_nothing hgd d s dT sT ho elem hu hsz dp sp dLen dCap sLen sCap hd hs (by simpa using hn.symm) ?_
    exact h w (show Blk _ _ _ _ by simpa using hg) (Keep.refl _ _) rfl
  · obtain rfl := hdp (by omega)
    rcases hrd with rfl | ⟨b, so, rfl, hsrc⟩
    · simp at h0
    · refine wpList_copy_own hgd d s dT sT ho elem hu hsz g off dLen dCap ⟨b, so, none⟩ sLen sCap hd hs cur.toArray t hg cs hn (fun j v hv => ?_) (by simpa using hfit) h1 ?_
      · have := hsrc j v hv
        unfold Addr.add; split
        · simpa [*] using this
        · exact this
      · refine h _ (show Blk _ _ _ _ from setRow_heap w g _ _ t _ hg) ⟨rfl, rfl, rfl, by simp, fun k _ hk => setRow_other w g k _ (by simpa using hk)⟩ (by simp)
end

/-! ### '[]byte("..")' of a constant: the row's mark -/
/-- The world behind the mark of block b: no cell has turned. -/
def frz (w : World) (b : Nat) : World := match w.shape? b with | some (_, m) => w.freeze ⟨b, m, none⟩ 1 | none => w
theorem frz_heap (w : World) (b k : Nat) : (frz w b).heap[k]? = if k = b then (w.heap[k]?).map (fun | .cells c e (lo, hi) => .cells c e (if lo == hi then (c.size, c.size + 1) else (min lo c.size, max hi (c.size + 1))) | o => o) else w.heap[k]? := by
  unfold frz World.shape?
  cases hb : w.heap[b]? with
  | none =>
    simp only
    by_cases h : k = b
    · subst h; simp [hb]
    · simp [h]
  | some o =>
    cases o with
    | cells c e f =>
      obtain ⟨lo, hi⟩ := f
      simp only [World.freeze]
      rw [if_neg (by decide)]
      simp only [Array.getElem?_modify]
      by_cases h : b = k
      · subst h; simp [hb]
      · rw [if_neg h, if_neg (fun e => h e.symm)]
    | _ =>
      simp only
      by_cases h : k = b
      · subst h; simp [hb]
      · simp [h]
theorem frz_cell (w : World) (b : Nat) (a : Addr) : (frz w b).cell? a = w.cell? a := by
  unfold World.cell?
  rw [frz_heap]
  by_cases h : a.block = b
  · rw [if_pos h]
    cases hb : w.heap[a.block]? with
    | none => simp
    | some o => cases o <;> simp
  · rw [if_neg h]
theorem frz_rest (w : World) (b : Nat) : (frz w b).os = w.os ∧ (frz w b).tape = w.tape ∧ (frz w b).output = w.output ∧ (frz w b).drawn = w.drawn ∧ (frz w b).heap.size = w.heap.size := by
  unfold frz World.freeze
  split
  · rw [if_neg (by decide)]; simp
  · simp
theorem frz_size (w : World) (b : Nat) : (frz w b).heap.size = w.heap.size := (frz_rest w b).2.2.2.2
theorem frz_drew (w : World) (b : Nat) : frz w.drew b = (frz w b).drew := by
  unfold frz
  show (match w.shape? b with | some (_, m) => w.drew.freeze ⟨b, m, none⟩ 1 | none => w.drew) = _
  cases w.shape? b with
  | none => rfl
  | some x =>
    show w.drew.freeze _ 1 = (w.freeze _ 1).drew
    unfold World.freeze
    rw [if_neg (by decide), if_neg (by decide)]; rfl
attribute [go_sem] frz_cell frz_size frz_drew
theorem Keep.frz {S : List Nat} {w w' : World} (h : Keep S w w') {b : Nat} (hb : b ∈ S ∨ w.heap.size ≤ b) : Keep S w (frz w' b) := by
  obtain ⟨h1, h2, h3, _, h5⟩ := frz_rest w' b
  exact ⟨h1.trans h.os, h2.trans h.tape, h3.trans h.output, by rw [h5]; exact h.size, fun k hk hS => by rw [frz_heap, if_neg (by rintro rfl; rcases hb with hb | hb; exact hS hb; omega)]; exact h.block k hk hS⟩
theorem Blk.frz {w : World} {b g : Nat} {c : Array Value} {t : TypeId} (h : Blk w b c t) (hg : b ≠ g) : Blk (frz w g) b c t := h.of_eq (by rw [frz_heap, if_neg hg])
theorem Rd.frz {w : World} {a : Option Addr} {vs : List Value} (h : Rd w a vs) (b : Nat) : Rd (frz w b) a vs := by
  rcases h with h | ⟨g, off, rfl, h⟩
  · exact Or.inl h
  · exact Or.inr ⟨g, off, rfl, fun k v hv => by rw [frz_cell]; exact h k v hv⟩
theorem run_convert_frz {P : Program} (t e : TypeId) (ht : P.underlying t = some (.slice e)) (he : P.underlying e = some (.int .u8)) (b o n c : Nat) (w : World) :
    (convert t t (.slice (some ⟨b, o, none⟩) n c)).run P w = .ok (.slice (some ⟨b, o, none⟩) n c) (Go.Proofs.Ytpocegdlobnhaaa.frz w b) := by
  simp only [convert, Sem.run_bind, run_underlying ht, run_underlying he, Result.andThen_ok, markStringish, beq_self_eq_true]
  unfold Go.Proofs.Ytpocegdlobnhaaa.frz
  cases h : w.shape? b with
  | none => simp [h]
  | some x => obtain ⟨u, m⟩ := x; simp [h]

/-- A row of bytes that has just been made. -/
theorem Rd.made (w : World) (c : Array Value) (t : TypeId) (f : Nat × Nat) (vs : List Value) (b : Nat) (hb : b = w.heap.size) (h : c.toList = vs) : Rd (w.alloc (.cells c t f)) (some ⟨b, 0, none⟩) vs := by
  subst h; subst hb
  have hb : (w.alloc (.cells c t f)).heap[w.heap.size]? = some (.cells c t f) := heap_alloc_new w _
  exact Or.inr ⟨w.heap.size, 0, rfl, fun k v hk => by rw [Nat.zero_add, cell_of_row _ _ _ _ _ _ hb]; simpa using hk⟩

/-! ### A slice of the call's own, and the builtin append -/
theorem Rd.add {w : World} {b off : Nat} {vs : List Value} (h : ∀ k v, vs[k]? = some v → w.cell? ⟨b, off + k, none⟩ = some v) : ∀ j v, vs[j]? = some v → w.cell? ((⟨b, off, none⟩ : Addr).add j) = some v := by
  intro j v hv
  have := h j v hv
  unfold Addr.add; split
  · simpa [*] using this
  · exact this

section
variable {w w' : World} {base : Nat} {e : TypeId} {v : Value} {n : Nat} {vs : List Value}
theorem owns_len (h : w.ownsRow base e 1 v n vs) : vs.length = n := by simpa using h.1
theorem owns_cases (h : w.ownsRow base e 1 v n vs) : (v = .slice none 0 0 ∧ vs = []) ∨ ∃ g cap cur, v = .slice (some ⟨g, 0, none⟩) vs.length cap ∧ base ≤ g ∧ Blk w g (vs ++ cur).toArray e ∧ cap = vs.length + cur.length ∧ cap ≤ maxLen := by
  have hl := owns_len h
  rcases h.2 with ⟨h1, h2⟩ | ⟨g, cap, cur, rfl, hb, hg, hn, hm, hc, ht⟩
  · exact Or.inl ⟨h1, List.eq_nil_of_length_eq_zero (by omega)⟩
  · simp only [Nat.mul_one] at hc ht
    have e1 : cur.toList = vs ++ cur.toList.drop n := by rw [← ht, List.take_append_drop]
    refine Or.inr ⟨g, cap, cur.toList.drop n, by rw [hl], hb, ?_, ?_, hm⟩
    · unfold Blk; rw [← e1]; exact hg
    · rw [hl, List.length_drop, Array.length_toList, hc]; omega
theorem owns_of_blk {g : Nat} {cur : List Value} (hb : base ≤ g) (h : Blk w g (vs ++ cur).toArray e) (hm : vs.length + cur.length ≤ maxLen) : w.ownsRow base e 1 (.slice (some ⟨g, 0, none⟩) vs.length (vs.length + cur.length)) vs.length vs :=
  ⟨by simp, Or.inr ⟨g, _, _, rfl, hb, h, by omega, hm, by simp, by simp⟩⟩
theorem owns_keep (h : w.ownsRow base e 1 v n vs) {S : List Nat} (k : Keep S w w') (hS : ∀ b ∈ S, v.ownBlock ≠ some b) : w'.ownsRow base e 1 v n vs := by
  refine ⟨h.1, ?_⟩
  rcases h.2 with hn | ⟨g, cap, cur, rfl, hb, hgg, rest⟩
  · exact .inl hn
  · exact .inr ⟨g, cap, cur, rfl, hb, (k.block g (Array.getElem?_eq_some_iff.1 hgg).1 (fun hs => hS g hs rfl)).trans hgg, rest⟩
theorem owns_mono (h : w.ownsRow base e 1 v n vs) {base' : Nat} (hb : base' ≤ base) : w.ownsRow base' e 1 v n vs := by
  refine ⟨h.1, ?_⟩
  rcases h.2 with hn | ⟨g, cap, cur, rfl, hb', rest⟩
  · exact .inl hn
  · exact .inr ⟨g, cap, cur, rfl, by omega, rest⟩
end

/-- Where a slice's cells begin. -/
def sAddr : Value → Option Addr
  | .slice a _ _ => a
  | _ => none
theorem owns_rd {w : World} {base : Nat} {e : TypeId} {v : Value} {n : Nat} {vs : List Value} (h : w.ownsRow base e 1 v n vs) : Rd w (sAddr v) vs := by
  rcases owns_cases h with ⟨_, rfl⟩ | ⟨g, cap, cur, rfl, _, hg, _⟩
  · exact Or.inl rfl
  · exact Or.inr ⟨g, 0, rfl, fun k u hu => by rw [Nat.zero_add]; exact hg.cell (by simpa using (List.getElem?_append_left (List.getElem?_eq_some_iff.1 hu).1).trans hu)⟩
theorem owns_form {w : World} {base : Nat} {e : TypeId} {v : Value} {n : Nat} {vs : List Value} (h : w.ownsRow base e 1 v n vs) : ∃ a cap, v = .slice a n cap ∧ sAddr v = a ∧ Rd w a vs ∧ vs.length = n := by
  have hr := owns_rd h
  have hl := owns_len h
  rcases owns_cases h with ⟨rfl, rfl⟩ | ⟨g, cap, cur, rfl, _, hg, _⟩
  · exact ⟨none, 0, by simp at hl; rw [← hl], rfl, hr, hl⟩
  · exact ⟨some ⟨g, 0, none⟩, cap, by rw [hl], rfl, hr, hl⟩

section
variable {P : Program} {w : World} {ops : Array Oper} {rest : List Oper} {o : Oper} {a : Act} {Q : Exit → Act → World → Prop}
theorem wpList_appendB (hgd : o.guard = none) (s x : Operand) (t : TypeId)
    (ho : o.op = .call { callee := .builtin .append, args := #[s, x], argTypes := #[t, t] })
    (base : Nat) (e : TypeId) (z : Value) (bytes : Nat) (ht : P.underlying t = some (.slice e)) (hinfo : (P.info? e).map (fun i => (i.zero, i.size, i.bytes)) = some (some z, 1, bytes)) (hz : z.cells.size = 1)
    (v : Value) (n : Nat) (vs : List Value) (hs : a.eval s = v) (hown : w.ownsRow base e 1 v n vs)
    (sp : Option Addr) (m c : Nat) (news : List Value) (hx : a.eval x = .slice sp m c) (hl : news.length = m) (hc : sp = none → c = 0) (hrd : Rd w sp news) (h1 : ∀ u ∈ news, u.oneCell' = true)
    (h63 : n + m ≤ maxLen) (hbytes : (n + m) * bytes ≤ 140737488355328) (hbase : base ≤ w.heap.size)
    (h : ∀ v' w', w'.ownsRow base e 1 v' (n + m) (vs ++ news) → w.grownBy w' v.ownBlock → (v' = .slice none 0 0 → v = .slice none 0 0 ∧ m = 0) → wpList P ops Q rest (a.put o.dst v') w') : wpList P ops Q (o :: rest) a w := by
  obtain ⟨i, hi, hzz, hsz, hby⟩ := info_parts hinfo
  cases sp with
  | none =>
    obtain rfl : news = [] := by rcases hrd with h | ⟨_, _, h, _⟩; exact h; cases h
    simp only [List.length_nil] at hl
    subst hl
    rw [hc rfl] at hx
    refine wpList_append_own_none hgd s x t ho base e i 1 ht hi v n vs hs hown hx ?_
    exact h v w (by simpa using hown) ⟨rfl, rfl, rfl, Nat.le_refl _, fun _ _ _ => rfl⟩ (fun hv => ⟨hv, rfl⟩)
  | some ad =>
    refine wpList_append_own w hgd s x t ho base e i z 1 bytes ht hi hzz hsz hby hz (by omega) v n vs hs hown ad m c news hx (by simpa using hl) ?_ h1 h63 hbytes hbase (fun v' w' h2 h3 h4 => h v' w' h2 h3 h4.1)
    rcases hrd with rfl | ⟨b, off, he, hr⟩
    · simp
    · cases he; exact Rd.add hr
end

/-! ### Bits of an int -/
theorem ofInt_i64 (a : Nat) (ha : a < 9223372036854775808) : (BitVec.ofInt 64 (a : Int)).toNat = a := by
  rw [BitVec.ofInt_natCast, BitVec.toNat_ofNat]; exact Nat.mod_eq_of_lt (by omega)
theorem i64_or_nat (a b : Nat) (ha : a < 9223372036854775808) (hb : b < 9223372036854775808) : bits .or .i64 (a : Int) (b : Int) = ((a ||| b : Nat) : Int) := by
  have hx : a ||| b < 2 ^ 63 := Nat.or_lt_two_pow (by omega) (by omega)
  show IntKind.i64.wrap ((BitVec.ofInt 64 (a : Int) ||| BitVec.ofInt 64 (b : Int)).toNat : Int) = _
  rw [BitVec.toNat_or, ofInt_i64 a ha, ofInt_i64 b hb]
  simp only [IntKind.wrap_i64]; omega
theorem i64_or (a b : Int) (h1 : 0 ≤ a) (h2 : a < 9223372036854775808) (h3 : 0 ≤ b) (h4 : b < 9223372036854775808) : bits .or .i64 a b = ((a.toNat ||| b.toNat : Nat) : Int) := by
  obtain ⟨A, rfl⟩ := Int.eq_ofNat_of_zero_le h1
  obtain ⟨B, rfl⟩ := Int.eq_ofNat_of_zero_le h3
  simpa using i64_or_nat A B (by omega) (by omega)
theorem i64_xor_nat (a b : Nat) (ha : a < 9223372036854775808) (hb : b < 9223372036854775808) : bits .xor .i64 (a : Int) (b : Int) = ((a ^^^ b : Nat) : Int) := by
  have hx : a ^^^ b < 2 ^ 63 := Nat.xor_lt_two_pow (by omega) (by omega)
  show IntKind.i64.wrap ((BitVec.ofInt 64 (a : Int) ^^^ BitVec.ofInt 64 (b : Int)).toNat : Int) = _
  rw [BitVec.toNat_xor, ofInt_i64 a ha, ofInt_i64 b hb]
  simp only [IntKind.wrap_i64]; omega
theorem i64_and_nat (a b : Nat) (ha : a < 9223372036854775808) (hb : b < 9223372036854775808) : bits .and .i64 (a : Int) (b : Int) = ((a &&& b : Nat) : Int) := by
  have hx : a &&& b < 2 ^ 63 := Nat.and_lt_two_pow _ (by omega)
  show IntKind.i64.wrap ((BitVec.ofInt 64 (a : Int) &&& BitVec.ofInt 64 (b : Int)).toNat : Int) = _
  rw [BitVec.toNat_and, ofInt_i64 a ha, ofInt_i64 b hb]
  simp only [IntKind.wrap_i64]; omega

/-! ### Bytes -/
theorem B8_inj {x y : UInt8} : B8 x = B8 y ↔ x = y := by
  rw [← UInt8.toNat_inj]; simp only [B8, Value.int.injEq, true_and]; omega
theorem bs_append (xs ys : List UInt8) : bs (xs ++ ys) = bs xs ++ bs ys := List.map_append ..
theorem bs_length (xs : List UInt8) : (bs xs).length = xs.length := List.length_map ..
theorem bs_get (xs : List UInt8) (k : Nat) (h : k < xs.length) : (bs xs)[k]? = some (B8 xs[k]) := by simp [h]
theorem bs_app_get (xs : List UInt8) (cur : List Value) (k : Nat) (h : k < xs.length) : (bs xs ++ cur)[k]? = some (B8 xs[k]) := by
  rw [List.getElem?_append_left (by simpa using h)]; exact bs_get xs k h
theorem bs_app_set (xs : List UInt8) (cur : List Value) (k : Nat) (y : UInt8) (h : k < xs.length) : (bs xs ++ cur).set k (B8 y) = bs (xs.set k y) ++ cur := by
  rw [List.set_append_left _ _ (by simpa using h)]; simp [bs, List.map_set]
theorem bs_one (xs : List UInt8) : ∀ v ∈ bs xs, v.oneCell' = true := by simp [bs, Value.oneCell']
theorem wrap_u8_of (n : Int) : Value.int .u8 (IntKind.u8.wrap n) = B8 (UInt8.ofNat (n % 256).toNat) := by
  simp only [B8, IntKind.wrap_u8, UInt8.toNat_ofNat', Value.int.injEq, true_and]; omega

end Go.Proofs.Ytpocegdlobnhaaa

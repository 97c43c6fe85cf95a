/- Rx Wq Mp -/
import Derived.RangeFuncNested
import Derived.RangeFuncBound
import Derived.RangeFuncCalls
import Derived.RangeFuncLeaves
import Derived.Shelf.Abstract
import Derived.Shelf.RegionOpen
import Derived.OwnWalkIn
import Derived.TacticsInMore
import Derived.LoopNIn
import Derived.LoopIn
import Derived.Test.YtpocegdlobnhaaaGA
import Derived.Test.YtpocegdlobnhaaaRE
import Derived.Test.YtpocegdlobnhaaaWk
import Derived.Test.YtpocegdlobnhaaaSu
import Derived.MapKept
section
/- A range over a function that keeps cells of its own between two rounds; the body lays new blocks, or writes a few known ones and returns. -/
set_option linter.unusedVariables false
set_option linter.unusedSimpArgs false
set_option maxRecDepth 100000
namespace Go.Proofs.Ytpocegdlobnhaaa
open Go.RowKit Go.Shelf

theorem keep_put {S : List Nat} {w W : World} {l : Nat} (o : Obj) (h : Keep S w W) (hl : l ∈ S ∨ w.heap.size ≤ l) : Keep S w (W.putObj l o) :=
  ⟨h.os, h.tape, h.output, by have := h.size; simpa using this, fun k hk hS => (World.putObj_heap_other (by rintro rfl; rcases hl with h1 | h1; exact hS h1; omega)).trans (h.block k hk hS)⟩
/-- The iterator's contract. -/
def SeqC {α : Type} (gf : Nat) (lb : Array Value) (encs : α → Array Value) (S Sp : List α → Prop) (w : World) : Prop :=
  ∀ (n l : Nat) (J Jx : List α → World → Prop) (W : World), Keep [] w W → w.heap.size ≤ l → l < W.heap.size →
    (∀ pre A B U, J pre A → Keep U A B → (∀ b ∈ U, W.heap.size ≤ b) → J pre B) →
    (∀ pre A B, Jx pre A → Keep [] A B → Jx pre B) →
    (∀ pre x W1, J pre W1 → YieldAt Fence.wide n Try.prog l (encs x) W1 fun e W' => (e = .returned (.bool true) ∧ J (pre ++ [x]) W' ∧ Keep [l] W1 W') ∨ (e = .returned (.bool false) ∧ Jx (pre ++ [x]) W')) →
    J [] W →
    Calls Try.prog gf (#[.func (.yield l) #[] #[]] ++ lb) W fun e W' => (∃ v, e = .returned v) ∧ ((∃ xs, S xs ∧ J xs W') ∨ (∃ pre, Sp pre ∧ Jx pre W'))
/-- The loop's record. -/
abbrev recOf (fn : FuncId) (tmps : Array Value) (ps : Array Tmp) (assign body : Code) (D : Nat) (st : LoopState) (pe : Option Code) : Loop := { state := st, pending := pe, fn, tmps, params := ps, assign, body, defers := D }
/-- How the body of a round may be left. -/
def postR {α : Type} (T : List Nat) (G : List α → Prop) (X : List α → World → Prop) (pre : List α) (W : World) : Exit → Act → World → Prop
  | .normal, _, W' => Keep [] W W' ∧ G pre
  | .ret, _, W' => Keep T W W' ∧ X pre W'
  | _, _, _ => False
theorem range_law {α : Type} {g : Operand} {ps : Array Tmp} {assign body : Code} {Q : Exit → Act → World → Prop} {a : Act} {w : World} {n : Nat}
    {gf : Nat} {lb : Array Value} (hg : a.eval g = .func (.func gf) #[] lb) (eg : ∀ args w, (callFunc gf args).run Try.prog w = .ok (.enter gf args) w)
    {encs : α → Array Value} {S Sp : List α → Prop} (hseq : SeqC gf lb encs S Sp w) (hps : ∀ x, (encs x).size = ps.size)
    (T : List Nat) (hT : ∀ b ∈ T, b < w.heap.size) (G : List α → Prop) (X : List α → World → Prop)
    (hX : ∀ pre A B, X pre A → (∀ b, b < w.heap.size → B.heap[b]? = A.heap[b]?) → X pre B) (h0 : G []) (a₁ : α → Act)
    (hassign : ∀ (l : Nat) (x : α) (W : World) (K : Act → World → Prop), K (a₁ x) W →
      assign.wpIn (Fence.wide.inRound l) n Try.prog (Exit.then K (fun _ _ _ => False)) { tmps := (ps.zip (encs x)).foldl (fun t (p, v) => t.setIfInBounds p v) a.tmps, defers := [] } W)
    (hbody : ∀ (l : Nat) (pre : List α) (x : α) (W : World), Keep [] w W → G pre → body.wpIn (Fence.wide.inRound l) n Try.prog
      (postR T G X (pre ++ [x]) W) (a₁ x) W)
    (hdone : ∀ (D : Nat) (xs : List α) (W : World), w.heap.size ≤ D → S xs → G xs → Keep [] w W → W.heap[D]? = some (.deferred (some [])) → Q .normal { a with defers := { target := .collected D, args := #[] } :: a.defers } W)
    (hstop : ∀ (D : Nat) (pre : List α) (W : World), w.heap.size ≤ D → Sp pre → Keep T w W → X pre W → W.heap[D]? = some (.deferred (some [])) → Code.ret.wpIn Fence.wide n Try.prog Q { a with defers := { target := .collected D, args := #[] } :: a.defers } W) :
    (Code.rangeFunc g ps assign body).wpIn Fence.wide n Try.prog Q a w := by
  refine wpIn_rangeFunc fun fn hfn => ?_
  obtain ⟨D, hD⟩ : ∃ D, w.heap.size = D := ⟨_, rfl⟩
  obtain ⟨l, hl⟩ : ∃ l, D + 1 = l := ⟨_, rfl⟩
  obtain ⟨rec, hrec⟩ : ∃ rec : LoopState → Option Code → Loop, rec = recOf fn a.tmps ps assign body D := ⟨_, rfl⟩
  have hE := run_enterLoop_outer (P := Try.prog) (w := w) fn a.tmps ps assign body
  rw [hD] at hE
  have hr0 : (Loop.mk .ready none fn a.tmps ps assign body D) = rec .ready none := by rw [hrec]
  obtain ⟨W1, hW1⟩ : ∃ W1, (w.alloc (.deferred (some []))).alloc (.loop (rec .ready none)) = W1 := ⟨_, rfl⟩
  have hE2 : (Instr.enterLoop fn a.tmps ps assign body none).run Try.prog w = .ok (l, [{ target := .collected D, args := #[] }]) W1 := by
    rw [hE, hl, ← hW1, hrec]
  have kW1 : Keep [] w W1 := by rw [← hW1]; exact ((Keep.refl [] w).alloc _).alloc _
  have sW1 : W1.heap.size = D + 2 := by rw [← hW1]; simp [hD]
  have rl : W1.heap[l]? = some (.loop (rec .ready none)) := by
    rw [← hW1, ← hl, ← hD]; have := World.alloc_heap_new (w.alloc (.deferred (some []))) (.loop (rec .ready none)); rwa [World.size_alloc] at this
  have rd : W1.heap[D]? = some (.deferred (some [])) := by
    rw [← hW1, ← hD]; exact (Below.heap_alloc _ _ _ (by simp)).trans (World.alloc_heap_new w _)
  clear hW1 hE
  refine ⟨l, [{ target := .collected D, args := #[] }], W1, { target := .fn (.func gf) lb, args := #[.func (.yield l) #[] #[]] }, W1, gf, #[.func (.yield l) #[] #[]] ++ lb, W1, hE2, ?_, fun _ _ => trivial, ?_, fun h => (by cases h), ?_⟩
  · simp only [resolve, rangeCall, hg]; simp [go_sem]
  · simp [invoke, go_sem, eg]
  refine callsIn_wide.2 ?_
  refine (hseq n l
    (fun pre W => Keep [] w W ∧ G pre ∧ W.heap[l]? = some (.loop (rec .ready none)) ∧ W.heap[D]? = some (.deferred (some [])))
    (fun pre W => Keep T w W ∧ X pre W ∧ W.heap[l]? = some (.loop (rec .done (some .ret))) ∧ W.heap[D]? = some (.deferred (some [])))
    W1 kW1 (by omega) (by omega) ?_ ?_ ?_ ⟨kW1, h0, rl, rd⟩).mono ?_
  · rintro pre A B U ⟨h1, h2, h3, h4⟩ k hU
    have hlt := (Array.getElem?_eq_some_iff.1 h3).1
    refine ⟨h1.trans k (fun b hb => Or.inr (by have := hU b hb; omega)), h2, ?_, ?_⟩
    · rw [k.block l hlt (fun hb => by have := hU l hb; omega)]; exact h3
    · rw [k.block D (by omega) (fun hb => by have := hU D hb; omega)]; exact h4
  · rintro pre A B ⟨h1, h2, h3, h4⟩ k
    have hlt := (Array.getElem?_eq_some_iff.1 h3).1
    refine ⟨h1.trans' k, hX pre A B h2 (fun b hb => k.block b (by omega) (by simp)), ?_, ?_⟩
    · rw [k.block l hlt (by simp)]; exact h3
    · rw [k.block D (by omega) (by simp)]; exact h4
  · rintro pre x W ⟨h1, h2, h3, h4⟩
    have hlt := (Array.getElem?_eq_some_iff.1 h3).1
    have hy := run_yield (P := Try.prog) (args := encs x) h3 (by rw [hrec]; exact hps x)
    rw [hrec] at hy
    refine ⟨fn, _, assign, body, hy, roundIn_of_wpIn hfn (hassign l x W _ ⟨_, run_beginRound h3 (by rw [hrec]), ?_⟩)⟩
    obtain ⟨Wb, hWb⟩ : ∃ Wb, W.putObj l (.loop { rec .ready none with state := .busy }) = Wb := ⟨_, rfl⟩
    have kb : Keep [l] W Wb := by rw [← hWb]; exact keep_put _ (Keep.refl [l] W) (Or.inl (by simp))
    have kwb : Keep [] w Wb := h1.trans kb (fun b hb => by simp only [List.mem_singleton] at hb; subst hb; exact Or.inr (by omega))
    have bl : Wb.heap[l]? = some (.loop { rec .ready none with state := .busy }) := by rw [← hWb]; exact World.putObj_heap_same hlt
    have bd : Wb.heap[D]? = some (.deferred (some [])) := by rw [← hWb]; exact (World.putObj_heap_other (by omega)).trans h4
    rw [hWb]
    have hblt := (Array.getElem?_eq_some_iff.1 bl).1
    refine wpIn_mono (hbody l pre x Wb kwb h2) ?_
    rintro e a3 W3 hp
    have after : ∀ (U : List Nat), Keep U Wb W3 → (∀ b ∈ U, b < D) → W3.heap[l]? = some (.loop { rec .ready none with state := .busy }) ∧ W3.heap[D]? = some (.deferred (some [])) ∧ l < W3.heap.size := fun U k hU => by
      have e1 : W3.heap[l]? = some (.loop { rec .ready none with state := .busy }) := by rw [k.block l hblt (fun hb => by have := hU l hb; omega)]; exact bl
      refine ⟨e1, by rw [k.block D (by omega) (fun hb => by have := hU D hb; omega)]; exact bd, (Array.getElem?_eq_some_iff.1 e1).1⟩
    cases e with
    | normal =>
      obtain ⟨k3, g3⟩ := hp
      obtain ⟨l3, d3, lt3⟩ := after [] k3 (by simp)
      have hend := run_endRound (P := Try.prog) none l3
      refine ⟨_, _, hend, .inl ⟨rfl, ⟨?_, g3, ?_, ?_⟩, ?_⟩⟩
      · exact keep_put _ (kwb.trans' k3) (Or.inr (by omega))
      · rw [World.putObj_heap_same lt3, hrec]; rfl
      · exact (World.putObj_heap_other (by omega)).trans d3
      · exact keep_put _ (kb.trans' k3) (Or.inl (by simp))
    | ret =>
      obtain ⟨k3, x3⟩ := hp
      obtain ⟨l3, d3, lt3⟩ := after T k3 (fun b hb => by have := hT b hb; omega)
      have hend := run_endRound (P := Try.prog) (some .ret) l3
      refine ⟨_, _, hend, .inr ⟨rfl, ?_, ?_, ?_, ?_⟩⟩
      · exact keep_put _ ((kwb.mono (T := T) (by simp)).trans k3 (fun b hb => Or.inl hb)) (Or.inr (by omega))
      · exact hX _ _ _ x3 (fun b hb => World.putObj_heap_other (by omega))
      · rw [World.putObj_heap_same lt3, hrec]; rfl
      · exact (World.putObj_heap_other (by omega)).trans d3
    | exit id => exact hp.elim
    | goto t => exact hp.elim
    | panic ch => exact hp.elim
    | outgrown => exact hp.elim
  · rintro e W2 ⟨⟨v, rfl⟩, (⟨xs, hS, h1, h2, h3, h4⟩ | ⟨pre, hS, h1, h2, h3, h4⟩)⟩
    · have hend := run_endLoop (P := Try.prog) h3 (by rw [hrec]; simp)
      rw [hrec] at hend
      refine ⟨none, _, hend, hdone D xs _ (by omega) hS h2 (keep_put _ h1 (Or.inr (by omega))) ((World.putObj_heap_other (by omega)).trans h4)⟩
    · have hend := run_endLoop (P := Try.prog) h3 (by rw [hrec]; simp)
      rw [hrec] at hend
      refine ⟨some .ret, _, hend, hstop D pre _ (by omega) hS (keep_put _ h1 (Or.inr (by omega))) (hX _ _ _ h2 (fun b hb => World.putObj_heap_other (by omega))) ((World.putObj_heap_other (by omega)).trans h4)⟩
end Go.Proofs.Ytpocegdlobnhaaa
end
section
/- The windows, ranged over: the iterator's contract. -/
set_option linter.unusedVariables false
set_option linter.unusedSimpArgs false
set_option maxRecDepth 100000
namespace Go.Proofs.Ytpocegdlobnhaaa
open Go.RowKit Go.Shelf
open Rol (WinAt WinInv winCount window sums sumOf pushS)
attribute [local go_sem] Oper.semAt_some
abbrev At (len n : Nat) := { k : Nat // k + n ≤ len }
abbrev encW (n : Nat) (data : List UInt8) (x : At data.length n) : Array Value := #[.int .i64 ((x.1 : Nat) : Int), .int .i64 (sumOf (window data n x.1))]
set_option maxHeartbeats 4000000 in
theorem windows_seq (ps pd gd n : Nat) (data : List UInt8) (w : World) (h : WinAt w ps pd gd n data) (hlt : ps < w.heap.size ∧ pd < w.heap.size ∧ gd < w.heap.size) (h1 : 1 ≤ n) (hn64 : n ≤ 9223372036854775807) :
    SeqC (α := At data.length n) 119 #[.pointer (some ⟨ps, 0, none⟩), .pointer (some ⟨pd, 0, none⟩)] (encW n data)
      (fun xs => xs.map (·.1) = List.range (winCount data.length n)) (fun pre => ∃ m, m < winCount data.length n ∧ pre.map (·.1) = List.range (m + 1)) w := by
  intro n' l J Jx W hW hlw hlW hJ hJx hY h0
  have h := h.keep hW (by simp) (by simp) (by simp)
  have hsz := hW.size
  by_cases h2 : n ≤ data.length
  case neg =>
    have hc : winCount data.length (n : Nat) = 0 := by unfold winCount; rw [if_neg (by omega)]
    refine (Rol.windows_none ps pd gd n data W h hc (by omega) _).mono ?_
    rintro e w' ⟨rfl, m, rfl⟩
    exact ⟨⟨_, rfl⟩, Or.inl ⟨[], by rw [hc]; rfl, hJ [] W _ [] h0 ((Keep.refl [] W).drewN) (by simp)⟩⟩
  have hcnt : winCount data.length (n : Nat) = data.length - n + 1 := by unfold winCount; rw [if_pos (by omega)]; omega
  obtain ⟨a, cap, hb, hcap, ha⟩ := h.hd
  have hlen := h.len
  have hne : data ≠ [] := by rintro rfl; simp at h2; omega
  obtain rfl := ha hne
  obtain ⟨cur, hgd⟩ := h.hg hne
  have c0 := h.hs.cell (i := 0) rfl
  have c1 := hb.cell (i := 0) rfl
  have d1 : decide ((n : Int) < 1) = false := decide_eq_false (by omega)
  have d2 : decide (data.length < n) = false := decide_eq_false (by omega)
  have d3 : decide ((data.length : Int) < n) = false := decide_eq_false (by omega)
  have b1 : (n : Int) ≤ cap := by omega
  have HY := Lib.hid hY
  have HJ := Lib.hid hJ
  have HJX := Lib.hid hJx
  have HC := Lib.hid hcnt
  have HH := Lib.hid h
  have HNE := Lib.hid hne
  rw [HC.out]
  obtain ⟨R, hR⟩ : ∃ R : World → Prop, (fun W' => (∃ xs : List (At data.length n), xs.map (·.1) = List.range (data.length - n + 1) ∧ J xs W') ∨ (∃ pre : List (At data.length n), (∃ m, m < data.length - n + 1 ∧ pre.map (·.1) = List.range (m + 1)) ∧ Jx pre W')) = R := ⟨_, rfl⟩
  suffices hs : Calls Try.prog 119 (#[.func (.yield l) #[] #[]] ++ #[.pointer (some ⟨ps, 0, none⟩), .pointer (some ⟨pd, 0, none⟩)]) W (fun e W' => (∃ v, e = .returned v) ∧ R W') from
    hs.mono (by rintro e W' ⟨g1, g2⟩; refine ⟨g1, ?_⟩; rw [← hR] at g2; exact g2)
  have HR : Hid (∀ W', ((∃ xs : List (At data.length n), xs.map (·.1) = List.range (data.length - n + 1) ∧ J xs W') ∨ (∃ pre : List (At data.length n), (∃ m, m < data.length - n + 1 ∧ pre.map (·.1) = List.range (m + 1)) ∧ Jx pre W')) → R W') := Lib.hid (fun W' hh => by rw [← hR]; exact hh)
  clear hY hJ hJx hcnt hne h hR
  go_enter Try.func119, Try.ntmps119
  go_wp2_with fail
  have hrd : Rd W (some ⟨gd, 0, none⟩) (bs (data.take n)) := by
    refine Rd.of_blk hgd 0 (fun k v hk => ?_)
    obtain ⟨hk1, hk2⟩ := List.getElem?_eq_some_iff.1 hk
    have hk1' : k < n ∧ k < data.length := by simp at hk1; omega
    have := bs_app_get data cur k hk1'.2
    simpa [← hk2] using this
  refine (Rol.of_n (some ⟨gd, 0, none⟩) n cap (data.take n) W (by simp; omega) (by omega) hrd).mono ?_
  rintro e w1 ⟨rfl, hk1⟩
  have hs1 := hk1.size
  obtain ⟨sb, hsb⟩ : ∃ sb, w1.heap.size = sb := ⟨_, rfl⟩
  have hcur0 : Blk (w1.alloc (.cells #[.int .u16 (sums (data.take n)).1, .int .u16 (sums (data.take n)).2] 128)) sb #[.int .u16 (sums (window data n 0)).1, .int .u16 (sums (window data n 0)).2] 128 := by
    have := Blk.new w1 #[.int .u16 (sums (data.take n)).1, .int .u16 (sums (data.take n)).2] 128
    rw [hsb] at this
    simpa [window] using this
  have hk1a := hk1.alloc (.cells #[.int .u16 (sums (data.take n)).1, .int .u16 (sums (data.take n)).2] 128)
  have hat0 := HH.out.keep hk1a (by simp) (by simp) (by simp)
  have hJ0 := HJ.out [] W _ [] h0 hk1a (by simp)
  have hsbW : W.heap.size ≤ sb := by omega
  have hslt : ps < sb ∧ pd < sb ∧ gd < sb := by omega
  have hlsb : l < sb := by omega
  have hsz2 : (w1.alloc (.cells #[.int .u16 (sums (data.take n)).1, .int .u16 (sums (data.take n)).2] 128)).heap.size = sb + 1 := by simp [hsb]
  go_wp2_with fail
  obtain ⟨w2, hw2⟩ : ∃ w2, w1.alloc (.cells #[.int .u16 (sums (data.take n)).1, .int .u16 (sums (data.take n)).2] 128) = w2 := ⟨_, rfl⟩
  rw [hw2] at hcur0 hat0 hJ0 ⊢
  clear hw2 hsb hk1a hk1 hs1 hgd c0 c1 hb d1 d2 d3 h0 hsz2
  have hlps : l ≠ ps ∧ l ≠ pd ∧ l ≠ gd ∧ l ≠ sb := by omega
  go_loopw [5] (fun i wr => ∃ (k : Nat) (pre : List (At data.length n)), k + n ≤ data.length ∧ i = .int .i64 (k : Nat) ∧ pre.map (·.1) = List.range k ∧ Hid (J pre wr) ∧ WinAt wr ps pd gd n data ∧ Blk wr sb #[.int .u16 (sums (window data n k)).1, .int .u16 (sums (window data n k)).2] 128) (fun i _ => data.length - (intOf i).toNat)
  case atStart => exact ⟨0, [], by omega, rfl, rfl, Lib.hid hJ0, hat0, hcur0⟩
  case round =>
    clear hJ0 hat0 hcur0
    obtain ⟨k, pre, hk, rfl, hpre, hJk, hat, hcur⟩ := hrel
    have HJK := hJk
    clear hJk
    have hsr := Rol.sums_range (window data n k)
    have s0 := hcur.cell (i := 0) rfl
    have s1 := hcur.cell (i := 1) rfl
    obtain ⟨sm, hsm⟩ : ∃ sm, sums (window data n k) = sm := ⟨_, rfl⟩
    have hsmO : sumOf (window data n k) = sm.1 + 65536 * sm.2 := by rw [sumOf, hsm]
    rw [hsm] at hcur hsr s0 s1
    have NUM := Lib.hid (Rol.number_any sm.1 sm.2 hsr.1 hsr.2 wr)
    have HAT := Lib.hid hat
    have HCU := Lib.hid hcur
    obtain ⟨sv, hsv⟩ : ∃ sv, sumOf (window data n k) = sv := ⟨_, rfl⟩
    have HSM := Lib.hid hsm
    clear hsm
    have HYK := Lib.hid (fun w3 k3 => by
      have := HY.out pre ⟨k, hk⟩ w3 (HJ.out pre wr w3 [] HJK.out k3 (by simp))
      simp only [encW] at this
      rw [hsv, ← hsv, hsmO] at this
      exact this : ∀ w3, Keep [] wr w3 → YieldAt Fence.wide n' Try.prog l #[.int .i64 ((k : Nat) : Int), .int .i64 (sm.1 + 65536 * sm.2)] w3 fun e W' => (e = .returned (.bool true) ∧ J (pre ++ [⟨k, hk⟩]) W' ∧ Keep [l] w3 W') ∨ (e = .returned (.bool false) ∧ Jx (pre ++ [⟨k, hk⟩]) W'))
    clear hsv hsmO
    go_upto_region 3 with fail
    go_cut [30] (fun v30 wc => (v30 = .bool true ∧ k + 1 + n ≤ data.length ∧ (∃ x : At data.length n, x.1 = k ∧ Hid (J (pre ++ [x]) wc)) ∧ WinAt wc ps pd gd n data ∧ Blk wc sb #[.int .u16 sm.1, .int .u16 sm.2] 128) ∨
      (v30 = .bool false ∧ ((∃ xs : List (At data.length n), xs.map (·.1) = List.range (data.length - n + 1) ∧ J xs wc) ∨ (∃ pre : List (At data.length n), (∃ m, m < data.length - n + 1 ∧ pre.map (·.1) = List.range (m + 1)) ∧ Jx pre wc))))
    case first =>
      refine (wpIn_wide (n := n' + 1)).1 ?_
      gi_wp2_with (first
        | (refine ⟨trivial, ?_⟩; gi_at_call 75; refine (callsIn_wide.2 NUM.out).mono ?_; rintro e w3 ⟨rfl, k3⟩; obtain ⟨fn, tmps, assign, body, hy, hR⟩ := HYK.out w3 k3)
        | fail)
      refine hR.mono ?_
      have hpre2 : (pre ++ [(⟨k, hk⟩ : At data.length n)]).map (·.1) = List.range (k + 1) := by rw [List.map_append, hpre, List.range_succ]; rfl
      have HP2 := Lib.hid hpre2
      clear hpre2 hR hy
      rintro e W3 (⟨rfl, hJ3, k4⟩ | ⟨rfl, hJx3⟩)
      · have hat3 := (HAT.out.keep k3 (by simp) (by simp) (by simp)).keep k4 (by simpa using hlps.1.symm) (by simpa using hlps.2.1.symm) (by simpa using hlps.2.2.1.symm)
        have hcur3 := (HCU.out.keep k3 (by simp)).keep k4 (by simpa using hlps.2.2.2.symm)
        obtain ⟨a3, cap3, hb3, hcap3, ha3⟩ := hat3.hd
        have c0 := hat3.hs.cell (i := 0) rfl
        have c1 := hb3.cell (i := 0) rfl
        have HJ3 := Lib.hid hJ3
        clear hJ3
        by_cases hlt2 : k + n < data.length
        · have g1 : decide ((k : Int) + n < data.length) = true := decide_eq_true (by omega)
          have g2 : IntKind.i64.wrap ((k : Int) + n) = (k : Int) + n := IntWalk.i64_in _ (by omega)
          gi_wp2
          go_meet
          case rel => exact Or.inl ⟨rfl, by omega, ⟨⟨k, hk⟩, rfl, HJ3⟩, hat3, hcur3⟩
        · have g1 : decide ((k : Int) + n < data.length) = false := decide_eq_false (by omega)
          have g2 : IntKind.i64.wrap ((k : Int) + n) = (k : Int) + n := IntWalk.i64_in _ (by omega)
          have hkl : k + 1 = data.length - n + 1 := by omega
          have HKL := Lib.hid hkl
          clear hkl
          gi_wp2
          go_meet
          case rel => exact Or.inr ⟨rfl, Or.inl ⟨_, by rw [HP2.out, HKL.out], HJ3.out⟩⟩
      · have HJ3 := Lib.hid hJx3
        have hkl : k < data.length - n + 1 := by omega
        have HKL := Lib.hid hkl
        clear hJx3 hkl
        gi_wp2
        go_meet
        case rel => exact Or.inr ⟨rfl, Or.inr ⟨_, ⟨k, HKL.out, HP2.out⟩, HJ3.out⟩⟩
    case rest =>
      rcases hcut with ⟨rfl, hk1, ⟨x, hx, hJ3⟩, hat3, hcur3⟩ | ⟨rfl, hend⟩
      · have HX := Lib.hid (And.intro hx hpre)
        clear hx
        have hlt2 : k + n < data.length := by omega
        obtain ⟨a3, cap3, hb3, hcap3, ha3⟩ := hat3.hd
        obtain rfl := ha3 HNE.out
        obtain ⟨cur3, hgd3⟩ := hat3.hg HNE.out
        have c0 := hat3.hs.cell (i := 0) rfl
        have c1 := hb3.cell (i := 0) rfl
        have l0 : wc.cell? ⟨gd, k, none⟩ = some (B8 data[k]) := hgd3.cell (by simpa using bs_app_get data cur3 k (by omega))
        have l1 : wc.cell? ⟨gd, k + n, none⟩ = some (B8 data[k + n]) := hgd3.cell (by simpa using bs_app_get data cur3 (k + n) hlt2)
        have s0 := hcur3.cell (i := 0) rfl
        have s1 := hcur3.cell (i := 1) rfl
        have f0 := hcur3.free (i := 0)
        have f1 := hcur3.free (i := 1)
        have kl : (k : Int) < data.length := by omega
        have kl2 : (k : Int) + n < data.length := by omega
        have hcur4 := hcur3
        rw [← HSM.out] at hcur4
        go_wp2
        have q1 : IntKind.i64.wrap ((k : Int) + n) = (k : Int) + n := IntWalk.i64_in _ (by omega)
        have q2 : 0 ≤ (k : Int) + n := by omega
        have q3 : ((k : Int) + n).toNat = k + n := by omega
        have n1 : ps ≠ sb := by omega
        have n2 : pd ≠ sb := by omega
        have n3 : gd ≠ sb := by omega
        rw [← HSM.out] at s0 s1
        go_region_held3 (fun w' => w'.cell? ⟨ps, 0, none⟩ = some (.int .i64 n) ∧ w'.cell? ⟨pd, 0, none⟩ = some (.slice (some ⟨gd, 0, none⟩) data.length cap3) ∧ w'.cell? ⟨gd, k, none⟩ = some (B8 data[k]) ∧ w'.cell? ⟨gd, k + n, none⟩ = some (B8 data[k + n])) (go_simp) ((go_at_call 120; go_must (refine (Rol.push_any sb 0 n (sums (window data n k)) data[k] data[k + n] _ ?_ ?_ ?_ ?_ (by omega)).mono ?_); go_must (iterate 4 (focus (go_simp))); go_must (rintro e w4 ⟨rfl, m, rfl⟩)))
        have kst : Keep [sb] wc (((wc.setCell ⟨sb, 0, none⟩ (.int .u16 (pushS (sums (window data n k)) n data[k] data[k + n]).1)).setCell ⟨sb, 1, none⟩ (.int .u16 (pushS (sums (window data n k)) n data[k] data[k + n]).2)).drewN (1 + m)) := by
          repeat (first | exact Keep.refl _ _ | refine Keep.drewN ?_ | refine Keep.set ?_ (by simp) _)
        have hW4 := WinInv.step (w := W) (m := 1 + m) hat3 hcur4 hslt (by omega) hlt2
        have hJ4 := HJ.out (pre ++ [x]) wc _ [sb] hJ3.out kst (fun b hb => by simp only [List.mem_singleton] at hb; omega)
        go_wp2
        exact ⟨⟨k + 1, pre ++ [x], by omega, by go_num, by rw [List.map_append, HX.out.2, List.range_succ]; simp [HX.out.1], Lib.hid hJ4, hW4.at_, hW4.cur⟩, by simp [intOf]; omega⟩
      · have HE := Lib.hid hend
        clear hend
        go_wp2
        go_end0
        exact ⟨⟨_, rfl⟩, HR.out _ HE.out⟩
end Go.Proofs.Ytpocegdlobnhaaa
end
section
/- A map of sums to rows of numbers: looked up, written; each row in memory of its own. -/
set_option linter.unusedVariables false
set_option linter.unusedSimpArgs false
set_option maxRecDepth 100000
namespace Go.Proofs.Ytpocegdlobnhaaa
open Go.RowKit

theorem under79 : Try.prog.underlying 79 = some (.map 3 82) := by kernel_rfl
abbrev Ent3 := Int × Value × Nat
def entryOf (e : Ent3) : MapEntry := { key := .int .i64 e.1, val := e.2.1, born := e.2.2 }
def mapAt (w : World) (r : Nat) (es : List Ent3) (c : Nat) : Prop := w.heap[r]? = some (.map (es.map entryOf).toArray c)
theorem mapAt.lt {w : World} {r c : Nat} {es : List Ent3} (h : mapAt w r es c) : r < w.heap.size := (Array.getElem?_eq_some_iff.1 h).1
theorem mapAt.keep {w w' : World} {r c : Nat} {es : List Ent3} {S : List Nat} (h : mapAt w r es c) (k : Keep S w w') (hr : r ∉ S) : mapAt w' r es c := by
  have hlt := h.lt
  unfold mapAt; rw [k.block r hlt hr]; exact h
theorem getMap {w : World} {r c : Nat} {es : List Ent3} (h : mapAt w r es c) : (getObj r).run Try.prog w = .ok (.map (es.map entryOf).toArray c) w := by
  unfold mapAt at h; simp [getObj, Sem.run, h]
theorem setMap {w : World} {r c : Nat} {es : List Ent3} (o : Obj) (h : mapAt w r es c) : (setObj r o).run Try.prog w = .ok () { w with heap := w.heap.setIfInBounds r o } := by
  unfold mapAt at h; simp [setObj, Sem.run, h]
def findE (k : Int) (es : List Ent3) : Option (Nat × Value) := (es.zipIdx 0).findSome? fun e => if k == e.1.1 then some (e.2, e.1.2.1) else none
theorem findNow_ints (k : Int) : ∀ (es : List Ent3) (i : Nat), Instr.findNow (.int .i64) (.int .i64 k) (es.map entryOf) i =
    some ((es.zipIdx i).findSome? fun e => if k == e.1.1 then some (e.2, e.1.2.1) else none)
  | [], i => rfl
  | e :: es, i => by
    have ih := findNow_ints k es (i + 1)
    simp only [List.map_cons, Instr.findNow, entryOf, Instr.sameNow, if_true, List.zipIdx_cons, List.findSome?_cons]
    cases hk : (k == e.1) with
    | true => simp
    | false => simpa [entryOf] using ih
theorem run_checkKey_int (w : World) (b : Bool) (k : Int) : (Instr.checkKey b 10000 3 (.int .i64 k)).run Try.prog w = .ok () w := by
  show Sem.run Try.prog (Instr.checkKey b (9999 + 1) 3 (.int .i64 k)) w = _
  rw [Instr.checkKey]
  simp only [Sem.run_bind, run_underlying Try.underlying3, Result.andThen_ok, Sem.run_pure]
theorem run_findKey (w : World) (k : Int) (es : List Ent3) : (Instr.findKey 3 (.int .i64 k) (es.map entryOf)).run Try.prog w = .ok (findE k es) w := by
  simp only [Instr.findKey, Sem.run_bind, run_underlying Try.underlying3, Result.andThen_ok, findNow_ints, Sem.run_pure]
  rfl
theorem findE_some {k : Int} {es : List Ent3} {i : Nat} {v : Value} (h : findE k es = some (i, v)) : ∃ b, es[i]? = some (k, v, b) := by
  obtain ⟨e, he, hf⟩ := List.exists_of_findSome?_eq_some h
  split at hf
  · rename_i hk
    simp only [Option.some.injEq, Prod.mk.injEq] at hf
    obtain ⟨rfl, rfl⟩ := hf
    have := List.mem_zipIdx he
    simp only [Nat.zero_le, Nat.sub_zero, Nat.zero_add, true_and] at this
    obtain ⟨h1, h2⟩ := this
    refine ⟨e.1.2.2, ?_⟩
    rw [List.getElem?_eq_getElem h1, ← h2]
    have : k = e.1.1 := by simpa using hk
    rw [this]
  · cases hf
theorem findE_none {k : Int} {es : List Ent3} (h : findE k es = none) : ∀ e ∈ es, e.1 ≠ k := by
  intro e he hk
  rw [findE, List.findSome?_eq_none_iff] at h
  obtain ⟨i, hi, he'⟩ := List.mem_iff_getElem.1 he
  have := h (e, i) (by rw [List.mem_zipIdx_iff_getElem?]; rw [List.getElem?_eq_getElem hi, he'])
  simp [hk] at this
theorem run_update_new {w : World} {r c : Nat} {k : Int} {v : Value} {es : List Ent3} (h : mapAt w r es c) (hn : findE k es = none) :
    ∃ w', (Instr.mapUpdate 79 (.map (some r)) (.int .i64 k) v).run Try.prog w = .ok () w' ∧ (mapAt w' r (es ++ [(k, v, c)]) (c + 1) ∧ Keep [r] w w') := by
  refine ⟨{ w with heap := w.heap.setIfInBounds r (.map ((es.map entryOf).toArray.push (entryOf (k, v, c))) (c + 1)) }, ?_, ?_, ?_⟩
  · simp only [Instr.mapUpdate, Sem.run_bind, run_underlying under79, Result.andThen_ok, getMap h, run_checkKey_int, List.toList_toArray, run_findKey, hn]
    exact setMap _ h
  · have hlt := h.lt
    simp only [mapAt]
    rw [Array.getElem?_setIfInBounds_self_of_lt hlt]
    simp [entryOf]
  · exact ⟨rfl, rfl, rfl, by simp, fun k _ hk => by simp only [List.mem_singleton] at hk; simp [Array.getElem?_setIfInBounds, Ne.symm hk]⟩
theorem run_update_old {w : World} {r c i b : Nat} {k : Int} {v v' : Value} {es : List Ent3} (h : mapAt w r es c) (hn : findE k es = some (i, v')) (he : es[i]? = some (k, v', b)) :
    ∃ w', (Instr.mapUpdate 79 (.map (some r)) (.int .i64 k) v).run Try.prog w = .ok () w' ∧ (mapAt w' r (es.set i (k, v, b)) c ∧ Keep [r] w w') := by
  refine ⟨{ w with heap := w.heap.setIfInBounds r (.map ((es.map entryOf).toArray.modify i fun e => { e with key := .int .i64 k, val := v }) c) }, ?_, ?_, ?_⟩
  · have hk : (Instr.keyThatStays ((((es.map entryOf).toArray[i]?).map (·.key)).getD (.int .i64 k)) (.int .i64 k)).run Try.prog w = .ok (.int .i64 k) w := by
      have e1 : ((((es.map entryOf).toArray[i]?).map (·.key)).getD (.int .i64 k)) = .int .i64 k := by
        rw [List.getElem?_toArray, List.getElem?_map, he]; rfl
      rw [e1, Instr.keyThatStays, if_pos (by simp [Instr.sameBits])]
      simp only [Sem.run_pure]
    simp only [Instr.mapUpdate, Sem.run_bind, run_underlying under79, Result.andThen_ok, getMap h, run_checkKey_int, List.toList_toArray, run_findKey, hn, hk]
    exact setMap _ h
  · have hlt := h.lt
    simp only [mapAt]
    rw [Array.getElem?_setIfInBounds_self_of_lt hlt]
    congr 2
    apply Array.ext'
    rw [Array.toList_modify]
    simp only [List.toList_toArray]
    apply List.ext_getElem?
    intro j
    rw [List.getElem?_modify, List.getElem?_map, List.getElem?_map, List.getElem?_set]
    by_cases hj : i = j
    · subst hj
      have hl := (List.getElem?_eq_some_iff.1 he).1
      rw [he]; simp [entryOf, hl]
    · simp [hj]
  · exact ⟨rfl, rfl, rfl, by simp, fun k _ hk => by simp only [List.mem_singleton] at hk; simp [Array.getElem?_setIfInBounds, Ne.symm hk]⟩
def ints (xs : List Nat) : List Value := xs.map fun (j : Nat) => Value.int .i64 j
theorem ints_len (xs : List Nat) : (ints xs).length = xs.length := by simp [ints]
/-- A map of sums to rows of numbers, each in memory of its own. -/
def MapOf (w : World) (base r : Nat) (look : Int → List Nat) : Prop := ∃ (es : List Ent3) (c : Nat), mapAt w r es c ∧
  (∀ (i : Nat) (k : Int) (v : Value) (b : Nat), es[i]? = some (k, v, b) → ∃ a n cp, v = .slice a n cp ∧ (look k).length = n ∧ Sl w 3 1 (.slice a n cp) n (ints (look k))) ∧
  (∀ k, (∀ e ∈ es, e.1 ≠ k) → look k = []) ∧
  (∀ (i j : Nat) (e f : Ent3), es[i]? = some e → es[j]? = some f → i ≠ j → e.1 ≠ f.1 ∧ ∀ b ∈ blks e.2.1, b ∉ blks f.2.1) ∧
  (∀ e ∈ es, ∀ b ∈ blks e.2.1, base ≤ b)
theorem MapOf.keep {w w' : World} {base r : Nat} {look : Int → List Nat} {T : List Nat} (h : MapOf w base r look) (k : Keep T w w') (hr : r ∉ T) (hT : ∀ b ∈ T, b < base ∨ w.heap.size ≤ b) : MapOf w' base r look := by
  obtain ⟨es, c, h1, h2, h3, h4, h5⟩ := h
  refine ⟨es, c, h1.keep k hr, fun i q v b hi => ?_, h3, h4, h5⟩
  obtain ⟨a, n, cp, rfl, hn, hs⟩ := h2 i q v b hi
  refine ⟨a, n, cp, rfl, hn, hs.keep k (fun b' hb' ht => ?_)⟩
  have g1 := h5 _ (List.mem_of_getElem? hi) b' hb'
  have g2 := hs.lt b' hb'
  have := hT b' ht
  omega
theorem MapOf.lt {w : World} {base r : Nat} {look : Int → List Nat} (h : MapOf w base r look) : r < w.heap.size := by obtain ⟨es, c, h1, -⟩ := h; exact h1.lt
theorem MapOf.new (w : World) (base : Nat) : MapOf (w.alloc (.map #[] 0)) base w.heap.size (fun _ => []) :=
  ⟨[], 0, heap_alloc_new w _, by simp, by simp, by simp, by simp⟩
theorem zero82 (w : World) : (zeroValue 82).run Try.prog w = .ok (.slice none 0 0) w := by kernel_rfl
/-- What a look-up tells. -/
theorem MapOf.look {w : World} {base r : Nat} {look : Int → List Nat} (h : MapOf w base r look) (k : Int) : ∃ a n c, (Instr.lookup 79 (.map (some r)) (.int .i64 k) false).run Try.prog w = .ok (.slice a n c) w ∧ (look k).length = n ∧ Sl w 3 1 (.slice a n c) n (ints (look k)) ∧ (∀ b ∈ blks (.slice a n c), base ≤ b ∧ b ≠ r) := by
  obtain ⟨es, c, h1, h2, h3, h4, h5⟩ := h
  have hc : ∀ b, (Instr.checkKey b 10000 3 (.int .i64 k)).run Try.prog w = .ok () w := fun b => run_checkKey_int w b k
  have hf := run_findKey w k es
  cases hq : findE k es with
  | none =>
    refine ⟨none, 0, 0, ?_, ?_, ?_, by intro b hb; simp [blks, Value.ownBlock] at hb⟩
    · rw [hq] at hf
      simp only [Instr.lookup, Sem.run_bind, run_underlying under79, Result.andThen_ok, getMap h1, Sem.run_pure, hc, List.toList_toArray, hf, zero82]
      simp
    · rw [h3 k (findE_none hq)]; rfl
    · rw [h3 k (findE_none hq)]; exact Sl.nil _ _ _
  | some q =>
    obtain ⟨i, v⟩ := q
    obtain ⟨b, he⟩ := findE_some hq
    obtain ⟨a, n, cp, rfl, hn, hs⟩ := h2 i k v b he
    refine ⟨a, n, cp, ?_, hn, hs, fun b' hb' => ⟨h5 _ (List.mem_of_getElem? he) b' hb', ?_⟩⟩
    · rw [hq] at hf
      simp only [Instr.lookup, Sem.run_bind, run_underlying under79, Result.andThen_ok, getMap h1, Sem.run_pure, hc, List.toList_toArray, hf]
      simp
    · rintro rfl
      obtain ⟨-, hh⟩ := hs
      rcases hh with ⟨e, -⟩ | ⟨g, cap, pre, post, e, hB, -⟩
      · cases e; simp [blks, Value.ownBlock] at hb'
      · cases e
        have e2 : b' = g := by simpa [blks, Value.ownBlock] using hb'
        subst e2
        have h9 := hB.hp
        unfold mapAt at h1
        rw [h1] at h9; cases h9
theorem sl_ne {w : World} {r c n : Nat} {es : List Ent3} {v : Value} {vs : List Value} (h1 : mapAt w r es c) (hs : Sl w 3 1 v n vs) : ∀ b ∈ blks v, b ≠ r := by
  intro b' hb'
  rintro rfl
  obtain ⟨-, hh⟩ := hs
  rcases hh with ⟨e, -⟩ | ⟨g, cap, pre, post, e, hB, -⟩
  · subst e; simp [blks, Value.ownBlock] at hb'
  · subst e
    have e2 : b' = g := by simpa [blks, Value.ownBlock] using hb'
    subst e2
    have h9 := hB.hp
    unfold mapAt at h1
    rw [h1] at h9; cases h9
def upd (look : Int → List Nat) (k : Int) (i : Nat) : Int → List Nat := fun q => if q = k then look k ++ [i] else look q
theorem upd_same (look : Int → List Nat) (k : Int) (i : Nat) : upd look k i k = look k ++ [i] := by simp [upd]
theorem upd_other {look : Int → List Nat} {k q : Int} (i : Nat) (h : q ≠ k) : upd look k i q = look q := by simp [upd, h]
/-- The map, one row of it at hand. -/
def Looked (w : World) (base r : Nat) (look : Int → List Nat) (k : Int) (v : Value) : Prop := ∃ (es : List Ent3) (c : Nat), mapAt w r es c ∧
  (∀ (i : Nat) (k : Int) (v : Value) (b : Nat), es[i]? = some (k, v, b) → ∃ a n cp, v = .slice a n cp ∧ (look k).length = n ∧ Sl w 3 1 (.slice a n cp) n (ints (look k))) ∧
  (∀ k, (∀ e ∈ es, e.1 ≠ k) → look k = []) ∧
  (∀ (i j : Nat) (e f : Ent3), es[i]? = some e → es[j]? = some f → i ≠ j → e.1 ≠ f.1 ∧ ∀ b ∈ blks e.2.1, b ∉ blks f.2.1) ∧
  (∀ e ∈ es, ∀ b ∈ blks e.2.1, base ≤ b) ∧
  ((findE k es = none ∧ v = .slice none 0 0) ∨ ∃ i b, findE k es = some (i, v) ∧ es[i]? = some (k, v, b))
theorem MapOf.looked {w : World} {base r : Nat} {look : Int → List Nat} (h : MapOf w base r look) (k : Int) : ∃ a n c, (Instr.lookup 79 (.map (some r)) (.int .i64 k) false).run Try.prog w = .ok (.slice a n c) w ∧ (look k).length = n ∧ Sl w 3 1 (.slice a n c) n (ints (look k)) ∧ (∀ b ∈ blks (.slice a n c), base ≤ b ∧ b ≠ r) ∧ Looked w base r look k (.slice a n c) := by
  obtain ⟨es, c, h1, h2, h3, h4, h5⟩ := h
  have hc : ∀ b, (Instr.checkKey b 10000 3 (.int .i64 k)).run Try.prog w = .ok () w := fun b => run_checkKey_int w b k
  have hf := run_findKey w k es
  cases hq : findE k es with
  | none =>
    refine ⟨none, 0, 0, ?_, ?_, ?_, by intro b hb; simp [blks, Value.ownBlock] at hb, ⟨es, c, h1, h2, h3, h4, h5, Or.inl ⟨hq, rfl⟩⟩⟩
    · rw [hq] at hf
      simp only [Instr.lookup, Sem.run_bind, run_underlying under79, Result.andThen_ok, getMap h1, Sem.run_pure, hc, List.toList_toArray, hf, zero82]
      simp
    · rw [h3 k (findE_none hq)]; rfl
    · rw [h3 k (findE_none hq)]; exact Sl.nil _ _ _
  | some q =>
    obtain ⟨i, v⟩ := q
    obtain ⟨b, he⟩ := findE_some hq
    obtain ⟨a, n, cp, rfl, hn, hs⟩ := h2 i k v b he
    refine ⟨a, n, cp, ?_, hn, hs, fun b' hb' => ⟨h5 _ (List.mem_of_getElem? he) b' hb', sl_ne h1 hs b' hb'⟩, ⟨es, c, h1, h2, h3, h4, h5, Or.inr ⟨i, b, hq, he⟩⟩⟩
    · rw [hq] at hf
      simp only [Instr.lookup, Sem.run_bind, run_underlying under79, Result.andThen_ok, getMap h1, Sem.run_pure, hc, List.toList_toArray, hf]
      simp
theorem Looked.put {w0 W1 W2 : World} {base r i n c c' : Nat} {look : Int → List Nat} {k : Int} {a a' : Option Addr} (h : Looked w0 base r look k (.slice a n c)) (k1 : Keep [] w0 W1) (hk : Keep (blks (.slice a n c)) W1 W2)
    (hf : Fr W1 (blks (.slice a n c)) (blks (.slice a' (n + 1) c'))) (hs : Sl W2 3 1 (.slice a' (n + 1) c') (n + 1) (ints (look k ++ [i]))) (hl : (look k).length = n) (hbase : base ≤ w0.heap.size) :
    ∃ W3, (Instr.mapUpdate 79 (.map (some r)) (.int .i64 k) (.slice a' (n + 1) c')).run Try.prog W2 = .ok () W3 ∧ (MapOf W3 base r (upd look k i) ∧ Keep [r] W2 W3) := by
  obtain ⟨es, cc, h1, h2, h3, h4, h5, h6⟩ := h
  have hr1 : mapAt W1 r es cc := h1.keep k1 (by simp)
  have hvb : ∀ b ∈ blks (.slice a n c), b ≠ r ∧ base ≤ b := by
    rcases h6 with ⟨-, e⟩ | ⟨i0, b0, -, he⟩
    · rw [e]; intro b hb; simp [blks, Value.ownBlock] at hb
    · obtain ⟨a2, n2, c2, e2, -, hs2⟩ := h2 i0 k _ b0 he
      intro b hb
      exact ⟨sl_ne h1 (by rw [e2]; exact hs2) b hb, h5 _ (List.mem_of_getElem? he) b hb⟩
  have hr2 : mapAt W2 r es cc := hr1.keep hk (fun hb => (hvb r hb).1 rfl)
  have hnb : ∀ b ∈ blks (.slice a' (n + 1) c'), base ≤ b ∧ (b ∈ blks (.slice a n c) ∨ w0.heap.size ≤ b) := fun b hb => by
    rcases hf b hb with h | h
    · exact ⟨(hvb b h).2, Or.inl h⟩
    · have := k1.size; exact ⟨by omega, Or.inr (by omega)⟩
  have hsr := sl_ne hr2 hs
  rcases h6 with ⟨hq, e⟩ | ⟨i0, b0, hq, he⟩
  · obtain ⟨W3, hrun, hm, k3⟩ := run_update_new (v := .slice a' (n + 1) c') hr2 hq
    have hnk := findE_none hq
    have hv0 : ∀ b, b ∉ blks (.slice a n c) := fun b hb => by rw [e] at hb; simp [blks, Value.ownBlock] at hb
    refine ⟨W3, hrun, ⟨_, _, hm, ?_, ?_, ?_, ?_⟩, k3⟩
    · intro j q v b hj
      by_cases hjl : j < es.length
      · rw [List.getElem?_append_left hjl] at hj
        have hqk : q ≠ k := hnk _ (List.mem_of_getElem? hj)
        obtain ⟨a2, n2, c2, rfl, hn2, hs2⟩ := h2 j q v b hj
        refine ⟨a2, n2, c2, rfl, by rw [upd_other i hqk]; exact hn2, by rw [upd_other i hqk]; exact ((hs2.keep k1 (by simp)).keep hk (fun b _ hb => hv0 b hb)).keep k3 (fun b' hb' hb2 => by simp only [List.mem_singleton] at hb2; exact sl_ne h1 hs2 b' hb' hb2)⟩
      · rw [List.getElem?_append_right (by omega)] at hj
        have hj0 : j - es.length = 0 := by have := (List.getElem?_eq_some_iff.1 hj).1; simp at this; omega
        rw [hj0] at hj
        simp only [List.getElem?_cons_zero, Option.some.injEq, Prod.mk.injEq] at hj
        obtain ⟨rfl, rfl, rfl⟩ := hj
        exact ⟨_, _, _, rfl, by rw [upd_same, List.length_append, hl]; rfl, by rw [upd_same]; exact hs.keep k3 (fun b' hb' hb2 => by simp only [List.mem_singleton] at hb2; exact hsr b' hb' hb2)⟩
    · intro q hq2
      have hqk : q ≠ k := fun e => hq2 (k, Value.slice a' (n + 1) c', cc) (by simp) e.symm
      rw [upd_other i hqk]
      exact h3 q (fun e he => hq2 e (by simp [he]))
    · intro j1 j2 e1 e2 g1 g2 hne
      by_cases hj1 : j1 < es.length
      · rw [List.getElem?_append_left hj1] at g1
        by_cases hj2 : j2 < es.length
        · rw [List.getElem?_append_left hj2] at g2
          exact h4 j1 j2 e1 e2 g1 g2 hne
        · rw [List.getElem?_append_right (by omega)] at g2
          have hj0 : j2 - es.length = 0 := by have := (List.getElem?_eq_some_iff.1 g2).1; simp at this; omega
          rw [hj0] at g2
          obtain rfl : (k, Value.slice a' (n + 1) c', cc) = e2 := by simpa using g2
          refine ⟨hnk _ (List.mem_of_getElem? g1), fun b hb hb2 => ?_⟩
          obtain ⟨q, v, bb⟩ := e1
          obtain ⟨a2, n2, c2, rfl, -, hs2⟩ := h2 j1 q v bb g1
          have := hs2.lt b hb
          rcases (hnb b hb2).2 with h | h
          · exact hv0 b h
          · omega
      · rw [List.getElem?_append_right (by omega)] at g1
        have hj0 : j1 - es.length = 0 := by have := (List.getElem?_eq_some_iff.1 g1).1; simp at this; omega
        rw [hj0] at g1
        obtain rfl : (k, Value.slice a' (n + 1) c', cc) = e1 := by simpa using g1
        by_cases hj2 : j2 < es.length
        · rw [List.getElem?_append_left hj2] at g2
          refine ⟨fun e => hnk _ (List.mem_of_getElem? g2) e.symm, fun b hb2 hb => ?_⟩
          obtain ⟨q, v, bb⟩ := e2
          obtain ⟨a2, n2, c2, rfl, -, hs2⟩ := h2 j2 q v bb g2
          have := hs2.lt b hb
          rcases (hnb b hb2).2 with h | h
          · exact hv0 b h
          · omega
        · have := (List.getElem?_eq_some_iff.1 g2).1; simp at this; omega
    · intro e1 he1 b hb
      rcases List.mem_append.1 he1 with h | h
      · exact h5 e1 h b hb
      · obtain rfl : e1 = (k, Value.slice a' (n + 1) c', cc) := by simpa using h
        exact (hnb b hb).1
  · obtain ⟨W3, hrun, hm, k3⟩ := run_update_old (v := .slice a' (n + 1) c') hr2 hq he
    have hil := (List.getElem?_eq_some_iff.1 he).1
    refine ⟨W3, hrun, ⟨_, _, hm, ?_, ?_, ?_, ?_⟩, k3⟩
    · intro j q v b hj
      by_cases hji : i0 = j
      · subst hji
        rw [List.getElem?_set_self hil] at hj
        simp only [Option.some.injEq, Prod.mk.injEq] at hj
        obtain ⟨rfl, rfl, rfl⟩ := hj
        exact ⟨_, _, _, rfl, by rw [upd_same, List.length_append, hl]; rfl, by rw [upd_same]; exact hs.keep k3 (fun b' hb' hb2 => by simp only [List.mem_singleton] at hb2; exact hsr b' hb' hb2)⟩
      · rw [List.getElem?_set_ne hji] at hj
        have hd := h4 i0 j _ _ he hj hji
        have hqk : q ≠ k := fun e => hd.1 e.symm
        obtain ⟨a2, n2, c2, rfl, hn2, hs2⟩ := h2 j q v b hj
        refine ⟨a2, n2, c2, rfl, by rw [upd_other i hqk]; exact hn2, by rw [upd_other i hqk]; exact ((hs2.keep k1 (by simp)).keep hk (fun b hb1 hb => hd.2 b hb hb1)).keep k3 (fun b' hb' hb2 => by simp only [List.mem_singleton] at hb2; exact sl_ne h1 hs2 b' hb' hb2)⟩
    · intro q hq2
      have hqk : q ≠ k := fun e => hq2 (k, Value.slice a' (n + 1) c', b0) (List.mem_of_getElem? (List.getElem?_set_self hil)) e.symm
      rw [upd_other i hqk]
      refine h3 q (fun e he2 hk2 => ?_)
      obtain ⟨j, hj, hj2⟩ := List.mem_iff_getElem.1 he2
      by_cases hji : i0 = j
      · subst hji
        rw [List.getElem?_eq_getElem hj, hj2] at he
        obtain rfl : e = (k, Value.slice a n c, b0) := by simpa using he
        exact hqk hk2.symm
      · exact hq2 e (List.mem_of_getElem? (i := j) (by rw [List.getElem?_set_ne hji, List.getElem?_eq_getElem hj, hj2])) hk2
    · intro j1 j2 e1 e2 g1 g2 hne
      have old : ∀ (j : Nat) (e : Ent3), i0 ≠ j → es[j]? = some e → ∀ b ∈ blks (.slice a' (n + 1) c'), b ∉ blks e.2.1 := fun j e hji hj b hb2 hb => by
        have hd := h4 i0 j _ _ he hj hji
        obtain ⟨q, v, bb⟩ := e
        obtain ⟨a2, n2, c2, rfl, -, hs2⟩ := h2 j q v bb hj
        have := hs2.lt b hb
        rcases (hnb b hb2).2 with h | h
        · exact hd.2 b h hb
        · omega
      by_cases hj1 : i0 = j1
      · subst hj1
        rw [List.getElem?_set_self hil] at g1
        obtain rfl : (k, Value.slice a' (n + 1) c', b0) = e1 := by simpa using g1
        rw [List.getElem?_set_ne hne] at g2
        exact ⟨(h4 i0 j2 _ _ he g2 hne).1, old j2 e2 hne g2⟩
      · rw [List.getElem?_set_ne hj1] at g1
        by_cases hj2 : i0 = j2
        · subst hj2
          rw [List.getElem?_set_self hil] at g2
          obtain rfl : (k, Value.slice a' (n + 1) c', b0) = e2 := by simpa using g2
          exact ⟨(h4 j1 i0 _ _ g1 he hne).1, fun b hb hb2 => old j1 e1 hj1 g1 b hb2 hb⟩
        · rw [List.getElem?_set_ne hj2] at g2
          exact h4 j1 j2 e1 e2 g1 g2 hne
    · intro e1 he1 b hb
      obtain ⟨j, hj, hj2⟩ := List.mem_iff_getElem.1 he1
      by_cases hji : i0 = j
      · subst hji
        rw [List.getElem_set_self] at hj2
        rw [← hj2] at hb
        exact (hnb b hb).1
      · rw [List.getElem_set_ne hji] at hj2
        exact h5 e1 (by rw [← hj2]; exact List.getElem_mem _) b hb
/-- The blocks of a sum, rising, as far as the first so many go. -/
def groups (l : List Wk) (n : Nat) (k : Int) : List Nat := (List.range n).filter fun j => decide ((l[j]?).map (·.sum) = some k)
theorem groups_zero (l : List Wk) : groups l 0 = fun _ => [] := rfl
theorem groups_succ {l : List Wk} {i : Nat} {x : Wk} (h : l[i]? = some x) : groups l (i + 1) = upd (groups l i) x.sum i := by
  funext q
  rw [groups, List.range_succ, List.filter_append]
  by_cases hq : q = x.sum
  · subst hq; rw [upd_same]; simp [groups, h]
  · rw [upd_other i hq]; simp [groups, h, Ne.symm hq]
end Go.Proofs.Ytpocegdlobnhaaa
end

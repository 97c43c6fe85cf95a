/- Slices of elements of any width, opened; calls of three numbers and a row of bytes; slices of ints. No program in sight. -/
import Derived.Test.YtpocegdlobnhaaaOpen
import Derived.Deep.Fields
import Derived.ChangeSame
set_option linter.unusedVariables false
namespace Go.Proofs.Ytpocegdlobnhaaa
open Go.RowKit Go.ChangeShapes Go.WideShapes

theorem fm_len (f : Nat → List Value) (C : Nat) : ∀ n, (∀ i, i < n → (f i).length = C) → ((List.range n).flatMap f).length = n * C
  | 0, _ => by simp
  | n + 1, h => by
    rw [List.range_succ, List.flatMap_append, List.length_append, fm_len f C n (fun i hi => h i (by omega))]
    simp only [List.flatMap_cons, List.flatMap_nil, List.append_nil, h n (by omega), Nat.add_mul, Nat.one_mul]
theorem fm_part (f : Nat → List Value) (C : Nat) : ∀ n, (∀ i, i < n → (f i).length = C) → ∀ i, i < n → (((List.range n).flatMap f).drop (i * C)).take C = f i
  | 0, _, i, hi => by omega
  | n + 1, h, i, hi => by
    have hl := fm_len f C n (fun i hi => h i (by omega))
    rw [List.range_succ, List.flatMap_append]
    simp only [List.flatMap_cons, List.flatMap_nil, List.append_nil]
    by_cases e : i = n
    · subst e
      have hd : ((List.range i).flatMap f ++ f i).drop (i * C) = f i := by rw [← hl]; exact List.drop_left
      rw [hd, List.take_of_length_le (by rw [h i (by omega)]; exact Nat.le_refl _)]
    · have hi' : i < n := by omega
      have hle : (i + 1) * C ≤ n * C := Nat.mul_le_mul_right _ (by omega)
      rw [Nat.add_mul, Nat.one_mul] at hle
      rw [List.drop_append_of_le_length (by omega), List.take_append_of_le_length (by rw [List.length_drop]; omega)]
      exact fm_part f C n (fun i hi => h i (by omega)) i hi'
theorem part_get {vs : List Value} {i C j : Nat} {l : List Value} (h : (vs.drop (i * C)).take C = l) (hj : j < C) : vs[i * C + j]? = l[j]? := by
  rw [← h, List.getElem?_take, if_pos hj, List.getElem?_drop]

section
variable {H : Type} {enc : TypeId × Value → H} {P : Program} {W : World} {base : Nat} {held : Bool}

theorem open_elems {t e C : Nat} {a : Option Addr} {len cap : Nat} {d : DataW H} {ps : List MemPlace} (hu : P.underlying t = some (.slice e)) (hC : P.cellsOf e = C) (hC0 : 0 < C)
    (h : DataW.Trod enc P W base (fun _ => true) held t (.slice a len cap) d ps) (hw : ∀ n ∈ d.weights P t, n ≤ reachBytes) :
    len ≤ cap ∧ (a = none → cap = 0) ∧ cap * P.bytesOf e ≤ 140737488351232 ∧ cap ≤ maxLen ∧
    ∃ vs : List Value, vs.length = len * C ∧ Rd W a vs ∧ ∀ i, i < len → ∃ n x, DataW.trod enc P W base (fun _ => true) held n e ((vs.drop (i * C)).take C) = some x ∧ ∀ n ∈ x.1.weights P e, n ≤ reachBytes := by
  obtain ⟨fuel, h⟩ := h
  rcases Deep.open_slice hu h with ⟨hcs, hx⟩ | ⟨ad, l, c, m, n, D, Pl, hcs, _, hl, hm, hmm, hx, hV⟩
  · simp only [Value.cells, List.cons.injEq, Value.slice.injEq, and_true] at hcs
    obtain ⟨rfl, rfl, rfl⟩ := hcs
    exact ⟨Nat.le_refl _, fun _ => rfl, by simp, by simp [maxLen], [], by simp, Or.inl rfl, fun i hi => by omega⟩
  · simp only [Value.cells, List.cons.injEq, Value.slice.injEq, and_true] at hcs
    obtain ⟨rfl, rfl, rfl⟩ := hcs
    simp only [if_true] at hmm
    subst hmm
    obtain ⟨hx, _⟩ := Prod.mk.inj hx
    subst hx
    have hreach : m * P.bytesOf e ≤ 140737488351232 := by
      have := hw ((((List.range len).map D).length + ((List.range (m - len)).map fun j => D (len + j)).length) * P.bytesOf e) (by rw [weights_slice hu]; exact List.mem_cons_self)
      simp only [List.length_map, List.length_range] at this
      have e1 : reachBytes = 140737488351232 := rfl
      rw [show len + (m - len) = m by omega] at this
      omega
    rw [hC] at hV
    obtain ⟨f, hf⟩ := Deep.choose_lt (fun i (hi : i < len) => hV i (by omega))
    have hfl : ∀ i, i < len → (f i).length = C := fun i hi => by
      obtain ⟨h1, h2⟩ := hf i hi
      exact (World.cells?_some h1).2.1
    refine ⟨hl, (fun h => by cases h), hreach, hm, (List.range len).flatMap f, fm_len f C len hfl, ?_, fun i hi => ⟨n, _, by rw [fm_part f C len hfl i hi]; exact (hf i hi).2, fun x hx => weights_elem (P := P) hu hw hi x hx⟩⟩
    by_cases h0 : len = 0
    · subst h0; exact Or.inl (by simp)
    · obtain ⟨b, o, sp⟩ := ad
      have hcell : ∀ i, i < len → ∀ j, j < C → W.cell? (((⟨b, o, sp⟩ : Addr).add (i * C)).add j) = (f i)[j]? := fun i hi j hj => by
        obtain ⟨h1, h2⟩ := hf i hi
        exact (World.cells?_some h1).2.2 j (by first | exact hj | (rw [hfl i hi]; exact hj))
      have h1 := hcell 0 (by omega) 0 hC0
      rw [List.getElem?_eq_getElem (by rw [hfl 0 (by omega)]; exact hC0)] at h1
      have hs : sp = none := by
        have := spot_none h1
        simpa [Addr.add] using this
      subst hs
      refine Or.inr ⟨b, o, rfl, fun k v hv => ?_⟩
      have hk := (List.getElem?_eq_some_iff.1 hv).1
      rw [fm_len f C len hfl] at hk
      have hi : k / C < len := (Nat.div_lt_iff_lt_mul hC0).2 hk
      have hj : k % C < C := Nat.mod_lt _ hC0
      have hkk : k / C * C + k % C = k := by rw [Nat.mul_comm]; exact Nat.div_add_mod k C
      have h2 := hcell _ hi _ hj
      rw [add_off, add_off, Nat.add_assoc, hkk] at h2
      rw [h2, ← hv]
      have := part_get (fm_part f C len hfl _ hi) hj
      rw [hkk] at this
      exact this.symm

theorem weights_agg {t : TypeId} {fs : Array Field} {parts : List (DataW H)} (ht : P.underlying t = some (.struct fs)) : (DataW.agg parts).weights P t = DataW.weightsEach P (fs.toList.map (·.type)) parts := by
  simp [DataW.weights, ht]
theorem weights_part {t : TypeId} {fs : Array Field} {parts : List (DataW H)} (ht : P.underlying t = some (.struct fs)) (hw : ∀ n ∈ (DataW.agg parts).weights P t, n ≤ reachBytes) {j : Nat} {f : Field} {y : DataW H} (hf : fs[j]? = some f) (hy : parts[j]? = some y) : ∀ n ∈ y.weights P f.type, n ≤ reachBytes := by
  intro n hn
  refine hw n ?_
  rw [weights_agg ht]
  exact DataW.weights_mem_each (j := j) (t := f.type) (by simp [hf]) hy n hn
end

/-- A call of a script: its kind, two numbers, a row of bytes. -/
structure Cl where
  k : Int
  v : Int
  u : Int
  d : List UInt8
structure InCalls (w : World) (a : Option Addr) (len cap : Nat) (cs : List Cl) : Prop where
  hlen : cs.length = len
  rows : ∃ vs : List Value, vs.length = len * 4 ∧ Rd w a vs ∧ ∀ i c, cs[i]? = some c → vs[i * 4]? = some (.int .i64 c.k) ∧ vs[i * 4 + 1]? = some (.int .i64 c.v) ∧ vs[i * 4 + 2]? = some (.int .i64 c.u) ∧
    ((Lit.int .i64 c.k).wf = true ∧ (Lit.int .i64 c.v).wf = true ∧ (Lit.int .i64 c.u).wf = true) ∧ ∃ ai li ci, vs[i * 4 + 3]? = some (.slice ai li ci) ∧ InBytes w ai li ci c.d
  hle : len ≤ cap
  hnil : a = none → cap = 0
  max : cap ≤ maxLen

section
variable {H : Type} {enc : TypeId × Value → H} {P : Program} {W : World} {base : Nat} {held : Bool}
theorem open_call {e t0 t1 t2 t3 q : TypeId} {n0 n1 n2 n3 : Field} {fuel : Nat} {cs : List Value} {x : DataW H × List MemPlace} (he : P.underlying e = some (.struct #[n0, n1, n2, n3])) (hone : Deep.oneCellFields P #[n0, n1, n2, n3] = true)
    (h0 : P.underlying n0.type = some (.int .i64)) (h1 : P.underlying n1.type = some (.int .i64)) (h2 : P.underlying n2.type = some (.int .i64)) (h3 : P.underlying n3.type = some (.slice q)) (hq : P.underlying q = some (.int .u8)) (hcq : P.cellsOf q = 1) (hbq : P.bytesOf q = 1)
    (hl : cs.length = 4)
    (h : DataW.trod enc P W base (fun _ => true) held fuel e cs = some x) (hw : ∀ n ∈ x.1.weights P e, n ≤ reachBytes) :
    ∃ c : Cl, cs[0]? = some (.int .i64 c.k) ∧ cs[1]? = some (.int .i64 c.v) ∧ cs[2]? = some (.int .i64 c.u) ∧ ((Lit.int .i64 c.k).wf = true ∧ (Lit.int .i64 c.v).wf = true ∧ (Lit.int .i64 c.u).wf = true) ∧ ∃ ai li ci, cs[3]? = some (.slice ai li ci) ∧ InBytes W ai li ci c.d := by
  obtain ⟨ys, n, rfl, rfl, _, hyl, hf⟩ := DataW.trod_struct he h
  match cs, hl with
  | [c0, c1, c2, c3], _ =>
    match ys, hyl with
    | [y0, y1, y2, y3], _ =>
      obtain ⟨o0, k0⟩ := Deep.hone_of hone 0 n0 rfl
      obtain ⟨o1, k1⟩ := Deep.hone_of hone 1 n1 rfl
      obtain ⟨o2, k2⟩ := Deep.hone_of hone 2 n2 rfl
      obtain ⟨o3, k3⟩ := Deep.hone_of hone 3 n3 rfl
      have g0 : DataW.trod enc P W base (fun _ => true) held n n0.type [c0] = some y0 := by simpa [o0, k0] using hf 0 n0 rfl
      have g1 : DataW.trod enc P W base (fun _ => true) held n n1.type [c1] = some y1 := by simpa [o1, k1] using hf 1 n1 rfl
      have g2 : DataW.trod enc P W base (fun _ => true) held n n2.type [c2] = some y2 := by simpa [o2, k2] using hf 2 n2 rfl
      have g3 : DataW.trod enc P W base (fun _ => true) held n n3.type [c3] = some y3 := by simpa [o3, k3] using hf 3 n3 rfl
      obtain ⟨m0, e0, _, w0⟩ := DataW.trod_int h0 g0
      obtain ⟨m1, e1, _, w1⟩ := DataW.trod_int h1 g1
      obtain ⟨m2, e2, _, w2⟩ := DataW.trod_int h2 g2
      simp only [List.cons.injEq, and_true] at e0 e1 e2
      subst e0; subst e1; subst e2
      have hform : ∃ ai li ci, c3 = .slice ai li ci := by
        rcases open_ints h3 hq hcq g3 with ⟨hcs, _⟩ | ⟨_, _, _, _, hcs, _⟩
        · exact ⟨none, 0, 0, by simpa using hcs⟩
        · exact ⟨_, _, _, by simpa using hcs⟩
      obtain ⟨ai, li, ci, rfl⟩ := hform
      obtain ⟨xs, hxs⟩ := open_bytes_trod h3 hq hcq hbq g3 (weights_part he hw (j := 3) (f := n3) rfl rfl)
      exact ⟨⟨m0, m1, m2, xs⟩, rfl, rfl, rfl, ⟨w0, w1, w2⟩, ai, li, ci, rfl, hxs⟩

theorem open_calls {t e q : TypeId} {n0 n1 n2 n3 : Field} {a : Option Addr} {len cap : Nat} {d : DataW H} {ps : List MemPlace} (hu : P.underlying t = some (.slice e)) (he : P.underlying e = some (.struct #[n0, n1, n2, n3])) (hone : Deep.oneCellFields P #[n0, n1, n2, n3] = true) (hC : P.cellsOf e = 4)
    (h0 : P.underlying n0.type = some (.int .i64)) (h1 : P.underlying n1.type = some (.int .i64)) (h2 : P.underlying n2.type = some (.int .i64)) (h3 : P.underlying n3.type = some (.slice q)) (hq : P.underlying q = some (.int .u8)) (hcq : P.cellsOf q = 1) (hbq : P.bytesOf q = 1)
    (h : DataW.Trod enc P W base (fun _ => true) held t (.slice a len cap) d ps) (hw : ∀ n ∈ d.weights P t, n ≤ reachBytes) : ∃ cs, InCalls W a len cap cs := by
  obtain ⟨hle, hnil, _, hmax, vs, hvl, hrd, hel⟩ := open_elems hu hC (by omega) h hw
  have each : ∀ i, i < len → ∃ c : Cl, vs[i * 4]? = some (.int .i64 c.k) ∧ vs[i * 4 + 1]? = some (.int .i64 c.v) ∧ vs[i * 4 + 2]? = some (.int .i64 c.u) ∧
      ((Lit.int .i64 c.k).wf = true ∧ (Lit.int .i64 c.v).wf = true ∧ (Lit.int .i64 c.u).wf = true) ∧ ∃ ai li ci, vs[i * 4 + 3]? = some (.slice ai li ci) ∧ InBytes W ai li ci c.d := by
    intro i hi
    obtain ⟨n, x, hx, hwx⟩ := hel i hi
    have hl4 : ((vs.drop (i * 4)).take 4).length = 4 := by rw [List.length_take, List.length_drop, hvl]; omega
    obtain ⟨c, e0, e1, e2, hwf, ai, li, ci, e3, hb⟩ := open_call (t0 := t) (t1 := t) (t2 := t) (t3 := t) he hone h0 h1 h2 h3 hq hcq hbq hl4 hx hwx
    exact ⟨c, (part_get (j := 0) rfl (by omega)).trans e0, (part_get rfl (by omega)).trans e1, (part_get rfl (by omega)).trans e2, hwf, ai, li, ci, (part_get rfl (by omega)).trans e3, hb⟩
  have : Inhabited Cl := ⟨⟨0, 0, 0, []⟩⟩
  obtain ⟨y, hy⟩ := Deep.choose_lt each
  refine ⟨(List.range len).map y, by simp, ⟨vs, hvl, hrd, fun i c hc => ?_⟩, hle, hnil, hmax⟩
  have hi : i < len := by have := (List.getElem?_eq_some_iff.1 hc).1; simpa using this
  have e : y i = c := by simpa [hi] using hc
  rw [← e]
  exact hy i hi

/-- A slice of ints that came in. -/
structure InInts (w : World) (a : Option Addr) (len cap : Nat) (ns : List Int) : Prop where
  hlen : ns.length = len
  rd : Rd w a (ns.map (Value.int .i64))
  wf : ∀ n ∈ ns, (Lit.int .i64 n).wf = true
  hle : len ≤ cap
  hnil : a = none → cap = 0
  max : cap ≤ maxLen
theorem open_intsS {t e : TypeId} {a : Option Addr} {len cap : Nat} {d : DataW H} {ps : List MemPlace} (hu : P.underlying t = some (.slice e)) (he : P.underlying e = some (.int .i64)) (hC : P.cellsOf e = 1)
    (h : DataW.Trod enc P W base (fun _ => true) held t (.slice a len cap) d ps) (hw : ∀ n ∈ d.weights P t, n ≤ reachBytes) : ∃ ns, InInts W a len cap ns := by
  obtain ⟨hle, hnil, _, hmax, vs, hvl, hrd, hel⟩ := open_elems hu hC (by omega) h hw
  rw [Nat.mul_one] at hvl
  have each : ∀ i, i < len → ∃ n : Int, vs[i]? = some (.int .i64 n) ∧ (Lit.int .i64 n).wf = true := by
    intro i hi
    obtain ⟨n, x, hx, _⟩ := hel i hi
    rw [Nat.mul_one] at hx
    obtain ⟨m, e1, _, w1⟩ := DataW.trod_int he hx
    refine ⟨m, ?_, w1⟩
    have := congrArg (fun l => l[0]?) e1
    simpa [List.getElem?_take, List.getElem?_drop] using this
  obtain ⟨y, hy⟩ := Deep.choose_lt each
  have hvs : vs = ((List.range len).map y).map (Value.int .i64) := by
    apply List.ext_getElem?
    intro i
    by_cases hi : i < len
    · rw [(hy i hi).1]; simp [hi]
    · rw [List.getElem?_eq_none (by omega), List.getElem?_eq_none (by simp; omega)]
  refine ⟨(List.range len).map y, by simp, by rw [← hvs]; exact hrd, fun n hn => ?_, hle, hnil, hmax⟩
  obtain ⟨i, hi, rfl⟩ := List.mem_map.1 hn
  exact (hy i (List.mem_range.1 hi)).2
end
end Go.Proofs.Ytpocegdlobnhaaa

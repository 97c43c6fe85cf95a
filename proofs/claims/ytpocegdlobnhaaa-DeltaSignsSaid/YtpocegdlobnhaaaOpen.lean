/- The arguments of a law, opened: rows of bytes, rows of rows. No program in sight. -/
import Derived.Test.YtpocegdlobnhaaaLib
import Derived.SizedLaws
import Derived.ChangeSlices
import Derived.Deep.Slices
set_option linter.unusedVariables false
namespace Go.Proofs.Ytpocegdlobnhaaa
open Go.RowKit Go.ChangeShapes Go.WideShapes

/-- A slice of bytes that came in. -/
structure InBytes (w : World) (a : Option Addr) (len cap : Nat) (xs : List UInt8) : Prop where
  hlen : xs.length = len
  rd : Rd w a (bs xs)
  hle : len ≤ cap
  hnil : a = none → cap = 0
  reach : cap ≤ 9223372036854775807
  short : len ≤ 140737488351232

theorem spot_none {w : World} {a : Addr} {v : Value} (h : w.cell? a = some v) : a.spot = none := by
  unfold World.cell? at h
  split at h
  · split at h
    · cases h
    · rename_i hs; simpa using hs
  · cases h

section
variable {H : Type} {enc : TypeId × Value → H} {P : Program} {W : World} {base : Nat} {held : Bool}

theorem weights_slice {t e : TypeId} {elems spare : List (DataW H)} (hu : P.underlying t = some (.slice e)) : (DataW.slice elems spare).weights P t = (elems.length + spare.length) * P.bytesOf e :: (DataW.weightsAll P e elems ++ DataW.weightsAll P e spare) := by
  simp [DataW.weights, hu]

theorem open_bytes_trod {t e : TypeId} {fuel : Nat} {a : Option Addr} {len cap : Nat} {x : DataW H × List MemPlace} (hu : P.underlying t = some (.slice e)) (he : P.underlying e = some (.int .u8)) (hc : P.cellsOf e = 1) (hb : P.bytesOf e = 1)
    (h : DataW.trod enc P W base (fun _ => true) held fuel t [.slice a len cap] = some x) (hw : ∀ n ∈ x.1.weights P t, n ≤ reachBytes) : ∃ xs, InBytes W a len cap xs := by
  rcases open_ints hu he hc h with ⟨hcs, hx⟩ | ⟨ad, l, c, zs, hcs, _, hl, hm, hz, hx, hcell, hwf⟩
  · simp only [List.cons.injEq, Value.slice.injEq, and_true] at hcs
    obtain ⟨rfl, rfl, rfl⟩ := hcs
    exact ⟨[], rfl, Or.inl rfl, Nat.le_refl _, fun _ => rfl, by omega, by omega⟩
  · simp only [List.cons.injEq, Value.slice.injEq, and_true] at hcs
    obtain ⟨rfl, rfl, rfl⟩ := hcs
    simp only [if_true] at hz
    subst hx
    have hreach : cap ≤ 140737488351232 := by
      have := hw ((lits (H := H) .u8 (zs.take len)).length + (lits (H := H) .u8 (zs.drop len)).length) (by rw [weights_slice hu, hb, Nat.mul_one]; exact List.mem_cons_self)
      simp only [lits, List.length_map, List.length_take, List.length_drop] at this
      have e : reachBytes = 140737488351232 := rfl
      omega
    have hby : ∀ n ∈ zs, 0 ≤ n ∧ n < 256 := fun n hn => by
      have := hwf n hn
      simp [Lit.wf, IntKind.min, IntKind.max, IntKind.signed, IntKind.bits] at this
      omega
    refine ⟨(zs.take len).map fun n => UInt8.ofNat n.toNat, by simp; omega, ?_, hl, (fun h => by cases h), by omega, by omega⟩
    by_cases h0 : len = 0
    · subst h0; exact Or.inl (by simp)
    · obtain ⟨b, o, sp⟩ := ad
      have h1 := hcell 0 (by omega)
      have hs : sp = none := by
        have := spot_none h1
        simpa [Addr.add] using this
      subst hs
      refine Or.inr ⟨b, o, rfl, fun k v hv => ?_⟩
      obtain ⟨hk, hv⟩ := List.getElem?_eq_some_iff.1 hv
      simp only [bs, List.length_map, List.length_take] at hk
      have h2 := hcell k (by omega)
      have e1 : ((⟨b, o, none⟩ : Addr).add k) = ⟨b, o + k, none⟩ := by
        unfold Addr.add; split
        · simp [*]
        · rfl
      rw [e1] at h2
      rw [h2]
      simp only [bs, List.getElem_map, List.getElem_take] at hv
      rw [← hv]
      have hr := hby zs[k] (List.getElem_mem _)
      have e2 : zs.getD k 0 = zs[k] := by simp [List.getD, List.getElem?_eq_getElem (show k < zs.length by omega)]
      rw [e2]
      simp only [B8, UInt8.toNat_ofNat', Option.some.injEq, Value.int.injEq, true_and]
      omega

theorem open_bytes {t e : TypeId} {a : Option Addr} {len cap : Nat} {d : DataW H} {ps : List MemPlace} (hu : P.underlying t = some (.slice e)) (he : P.underlying e = some (.int .u8)) (hc : P.cellsOf e = 1) (hb : P.bytesOf e = 1)
    (h : DataW.Trod enc P W base (fun _ => true) held t (.slice a len cap) d ps) (hw : ∀ n ∈ d.weights P t, n ≤ reachBytes) : ∃ xs, InBytes W a len cap xs := by
  obtain ⟨fuel, hf⟩ := h
  exact open_bytes_trod hu he hc hb hf hw

theorem each_weight {ts : List TypeId} {ds : List (DataW H)} {j : Nat} {t : TypeId} {d : DataW H} (h : (DataW.weightsEach P ts ds).all (· ≤ reachBytes) = true) (ht : ts[j]? = some t) (hd : ds[j]? = some d) : ∀ n ∈ d.weights P t, n ≤ reachBytes := by
  intro n hn
  have := List.all_eq_true.1 h n (DataW.weights_mem_each ht hd n hn)
  simpa using this

theorem weightsAll_mem {e : TypeId} {d : DataW H} : ∀ {l : List (DataW H)}, d ∈ l → ∀ n ∈ d.weights P e, n ∈ DataW.weightsAll P e l
  | x :: l, hd, n, hn => by
    simp only [DataW.weightsAll, List.mem_append]
    rcases List.mem_cons.1 hd with rfl | h
    · exact Or.inl hn
    · exact Or.inr (weightsAll_mem h n hn)

/-- An element's weights are among the slice's. -/
theorem weights_elem {t e : TypeId} {len m i : Nat} {D : Nat → DataW H} (hu : P.underlying t = some (.slice e)) (hw : ∀ n ∈ (DataW.slice ((List.range len).map D) ((List.range (m - len)).map fun j => D (len + j))).weights P t, n ≤ reachBytes) (hi : i < len) :
    ∀ n ∈ (D i).weights P e, n ≤ reachBytes := by
  intro n hn
  refine hw n ?_
  rw [weights_slice hu]
  refine List.mem_cons_of_mem _ (List.mem_append.2 (Or.inl (weightsAll_mem (d := D i) ?_ n hn)))
  exact List.mem_map.2 ⟨i, List.mem_range.2 hi, rfl⟩

theorem add_off (b o k : Nat) : ((⟨b, o, none⟩ : Addr).add k) = ⟨b, o + k, none⟩ := by
  unfold Addr.add; split
  · simp [*]
  · rfl
end

/-- A slice of rows that came in. -/
structure InRows (w : World) (a : Option Addr) (len cap : Nat) (xss : List (List UInt8)) : Prop where
  hlen : xss.length = len
  rows : ∃ vs : List Value, vs.length = len ∧ Rd w a vs ∧ ∀ i (h : i < xss.length), ∃ ai li ci, vs[i]? = some (.slice ai li ci) ∧ InBytes w ai li ci xss[i]
  hle : len ≤ cap
  hnil : a = none → cap = 0
  reach : cap ≤ 9223372036854775807

section
variable {H : Type} {enc : TypeId × Value → H} {P : Program} {W : World} {base : Nat} {held : Bool}
theorem open_rows {t e q : TypeId} {a : Option Addr} {len cap : Nat} {d : DataW H} {ps : List MemPlace} (hu : P.underlying t = some (.slice e)) (he : P.underlying e = some (.slice q)) (hq : P.underlying q = some (.int .u8)) (hce : P.cellsOf e = 1) (hcq : P.cellsOf q = 1)
    (hbe : P.bytesOf e = 24) (hbq : P.bytesOf q = 1)
    (h : DataW.Trod enc P W base (fun _ => true) held t (.slice a len cap) d ps) (hw : ∀ n ∈ d.weights P t, n ≤ reachBytes) : ∃ xss, InRows W a len cap xss := by
  obtain ⟨fuel, h⟩ := h
  rcases Deep.open_slice1 hu hce h with ⟨hcs, hx⟩ | ⟨ad, l, c, m, n, V, D, Pl, hcs, _, hl, hm, hmm, hx, hV⟩
  · simp only [Value.cells, List.cons.injEq, Value.slice.injEq, and_true] at hcs
    obtain ⟨rfl, rfl, rfl⟩ := hcs
    exact ⟨[], rfl, ⟨[], rfl, Or.inl rfl, fun i hi => by simp at hi⟩, Nat.le_refl _, fun _ => rfl, by omega⟩
  · simp only [Value.cells, List.cons.injEq, Value.slice.injEq, and_true] at hcs
    obtain ⟨rfl, rfl, rfl⟩ := hcs
    simp only [if_true] at hmm
    subst hmm
    obtain ⟨hx, _⟩ := Prod.mk.inj hx
    subst hx
    have hreach : m * 24 ≤ 140737488351232 := by
      have := hw ((((List.range len).map D).length + ((List.range (m - len)).map fun j => D (len + j)).length) * 24) (by rw [weights_slice hu, hbe]; exact List.mem_cons_self)
      simp only [List.length_map, List.length_range] at this
      have e : reachBytes = 140737488351232 := rfl
      rw [show len + (m - len) = m by omega] at this
      omega
    have each : ∀ i, i < len → ∃ y : Option Addr × Nat × Nat × List UInt8, V i = .slice y.1 y.2.1 y.2.2.1 ∧ InBytes W y.1 y.2.1 y.2.2.1 y.2.2.2 := by
      intro i hi
      obtain ⟨h1, h2⟩ := hV i (by omega)
      have hwi := weights_elem (P := P) hu hw hi
      have hform : ∃ ai li ci, V i = .slice ai li ci := by
        rcases open_ints he hq hcq h2 with ⟨hcs, _⟩ | ⟨_, _, _, _, hcs, _⟩
        · exact ⟨none, 0, 0, by simpa using hcs⟩
        · exact ⟨_, _, _, by simpa using hcs⟩
      obtain ⟨ai, li, ci, e⟩ := hform
      rw [e] at h2
      obtain ⟨xs, hxs⟩ := open_bytes_trod he hq hcq hbq h2 hwi
      exact ⟨(ai, li, ci, xs), e, hxs⟩
    obtain ⟨y, hy⟩ := Deep.choose_lt each
    refine ⟨(List.range len).map fun i => (y i).2.2.2, by simp, ⟨(List.range len).map V, by simp, ?_, ?_⟩, hl, (fun h => by cases h), by omega⟩
    · by_cases h0 : len = 0
      · subst h0; exact Or.inl (by simp)
      · obtain ⟨b, o, sp⟩ := ad
        have h1 := (hV 0 (by omega)).1
        have hs : sp = none := by
          have := spot_none h1
          simpa [Addr.add] using this
        subst hs
        refine Or.inr ⟨b, o, rfl, fun k v hv => ?_⟩
        obtain ⟨hk, hv⟩ := List.getElem?_eq_some_iff.1 hv
        simp only [List.length_map, List.length_range] at hk
        have h2 := (hV k (by omega)).1
        rw [add_off] at h2
        rw [h2, ← hv]; simp
    · intro i hi
      simp only [List.length_map, List.length_range] at hi
      obtain ⟨e1, e2⟩ := hy i hi
      exact ⟨(y i).1, (y i).2.1, (y i).2.2.1, by simp [hi, e1], by simpa using e2⟩
end
end Go.Proofs.Ytpocegdlobnhaaa

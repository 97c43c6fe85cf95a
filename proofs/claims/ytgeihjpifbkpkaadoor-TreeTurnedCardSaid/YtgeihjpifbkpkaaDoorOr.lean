/- The openers: an entry that came in; a slice of them. -/
import Derived.Test.YtgeihjpifbkpkaaDoorRe
import Derived.Test.YtgeihjpifbkpkaaDoorOpenE
import Derived.Lib.LaidTab
set_option linter.unusedVariables false
set_option linter.unusedSimpArgs false
namespace Go.Proofs.YtgeihjpifbkpkaaDoor
open Go.RowKit

section
variable {H : Type} {enc : TypeId × Value → H} {W : World} {base : Nat} {held : Bool}
theorem open_32 {fuel : Nat} {cs : List Value} {x : DataW H × List MemPlace} (hl : cs.length = 32) (hf : DataW.trod enc Tryd.prog W base (fun _ => true) held fuel 35 cs = some x) : ∃ l : List UInt8, cs = bs l ∧ l.length = 32 := by
  have each : ∀ i, i < 32 → ∃ z : Int, cs[i]? = some (.int .u8 z) ∧ 0 ≤ z ∧ z < 256 := by
    intro i hi
    cases fuel with
    | zero => simp [DataW.trod] at hf
    | succ m =>
      simp only [DataW.trod, Tryd.underlying35] at hf
      split at hf
      · obtain ⟨ys, hm, hx⟩ := Option.map_eq_some_iff.1 hf
        obtain ⟨b, hb, hf'⟩ := Go.Lib.mapM_at hm i i (by simp [hi])
        obtain ⟨a, ea, -, wa⟩ := DataW.trod_int Tryd.underlying5 hf'
        have hc : Tryd.prog.cellsOf 5 = 1 := by kernel_rfl
        rw [hc] at ea
        refine ⟨a, ?_, ?_⟩
        · have := congrArg (·[0]?) ea
          simpa [List.getElem?_take, List.getElem?_drop] using this
        · simp [Lit.wf, IntKind.min, IntKind.max, IntKind.signed, IntKind.bits] at wa
          omega
      · cases hf
  refine ⟨(List.range 32).map fun i => match cs[i]? with | some (Value.int _ z) => UInt8.ofNat z.toNat | _ => 0, ?_, by simp⟩
  apply List.ext_getElem?
  intro i
  by_cases hi : i < 32
  · obtain ⟨z, hz, z0, z1⟩ := each i hi
    rw [hz]
    simp [bs, hi, hz]
    omega
  · rw [List.getElem?_eq_none (by omega)]
    simp [bs, hi]
theorem at_of_toList {fs : Array Field} {a b c : Field} (h : fs.toList = [a, b, c]) : fs[0]? = some a ∧ fs[1]? = some b ∧ fs[2]? = some c ∧ fs.size = 3 := by
  have e : fs = #[a, b, c] := by apply Array.ext'; rw [h]
  subst e; exact ⟨rfl, rfl, rfl, rfl⟩
theorem open_ent {fuel : Nat} {cs : List Value} {x : DataW H × List MemPlace} (hf : DataW.trod enc Tryd.prog W base (fun _ => true) held fuel 37 cs = some x): ∃ r : Ent, cs = r.cells ∧ r.name.size ≤ 9223372036854775807 := by
  obtain ⟨f0, f1, f2, hfs, h0, h1, h2⟩ := three_of_map fields37
  simp only [Prod.mk.injEq] at h0 h1 h2
  obtain ⟨n0, t0, o0⟩ := h0
  obtain ⟨n1, t1, o1⟩ := h1
  obtain ⟨n2, t2, o2⟩ := h2
  obtain ⟨a0, a1, a2, asz⟩ := at_of_toList hfs
  obtain ⟨ys, n, rfl, rfl, hcl, hyl, hg⟩ := DataW.trod_struct struct37 hf
  have hc37 : Tryd.prog.cellsOf 37 = 34 := by kernel_rfl
  have hc35 : Tryd.prog.cellsOf 35 = 32 := by kernel_rfl
  have hc9 : Tryd.prog.cellsOf 9 = 1 := by kernel_rfl
  have hc3 : Tryd.prog.cellsOf 3 = 1 := by kernel_rfl
  rw [hc37] at hcl
  rw [asz] at hyl
  match ys, hyl with
  | [y0, y1, y2], _ =>
    have g0 := hg 0 f0 a0
    have g1 := hg 1 f1 a1
    have g2 := hg 2 f2 a2
    rw [t0, o0, hc9] at g0
    rw [t1, o1, hc3] at g1
    rw [t2, o2, hc35] at g2
    obtain ⟨s, eS, -, hS⟩ := DataW.trod_string Tryd.underlying9 g0
    obtain ⟨z, eZ, _, _⟩ := DataW.trod_int Tryd.underlying3 g1
    obtain ⟨A, eA, lA⟩ := open_32 (by rw [List.length_take, List.length_drop]; omega) g2
    refine ⟨⟨s, z, A, lA⟩, ?_, by simpa [maxLen] using hS⟩
    have h2 : (cs.drop 2).take 32 = cs.drop 2 := List.take_of_length_le (by rw [List.length_drop]; omega)
    rw [h2] at eA
    match cs, hcl with
    | c0 :: c1 :: rest, _ =>
      simp only [List.drop_zero, List.take_succ_cons, List.take_zero, List.cons.injEq, and_true, List.drop_succ_cons] at eS eZ eA
      rw [eS, eZ, eA]; rfl
theorem open_entries {a : Option Addr} {len cap : Nat} {d : DataW H} {ps : List MemPlace}
    (h : DataW.Trod enc Tryd.prog W base (fun _ => true) held 24 (.slice a len cap) d ps) (hw : ∀ n ∈ d.weights Tryd.prog 24, n ≤ reachBytes) : ∃ l, EsIn W a len cap l := by
  have hC : Tryd.prog.cellsOf 37 = 34 := by kernel_rfl
  have hb : Tryd.prog.bytesOf 37 = 56 := by kernel_rfl
  obtain ⟨hle, hnil, hreach, hmax, vs, hvl, hrd, hel⟩ := open_elems Tryd.underlying24 hC (by omega) h hw
  rw [hb] at hreach
  have each : ∀ i, i < len → ∃ r : Ent, (vs.drop (i * 34)).take 34 = r.cells ∧ r.name.size ≤ 9223372036854775807 := by
    intro i hi
    obtain ⟨n, x, hx, _⟩ := hel i hi
    exact open_ent hx
  have : Inhabited Ent := ⟨⟨⟨#[]⟩, 0, List.replicate 32 0, by simp⟩⟩
  obtain ⟨y, hy⟩ := Deep.choose_lt each
  have hvs : vs = cellsOf ((List.range len).map y) := by
    apply List.ext_getElem?
    intro k
    by_cases hk : k < len * 34
    · have hi : k / 34 < len := by omega
      have h1 := cellsOf_get (l := (List.range len).map y) (i := k / 34) (x := y (k / 34)) (by simp [hi]) (j := k % 34) (by omega)
      have h2 := part_get (hy (k / 34) hi).1 (j := k % 34) (by omega)
      rw [show k / 34 * 34 + k % 34 = k by omega] at h1 h2
      rw [h1, h2]
    · rw [List.getElem?_eq_none (by omega), List.getElem?_eq_none (by rw [cellsOf_len]; simp; omega)]
  have hcm : len * 56 ≤ cap * 56 := Nat.mul_le_mul_right _ hle
  exact ⟨(List.range len).map y, by simp, by rw [← hvs]; exact hrd, hle, hnil, by simpa [maxLen] using hmax, by omega, fun x hx => by
    obtain ⟨i, hi, rfl⟩ := List.mem_map.1 hx
    exact (hy i (List.mem_range.1 hi)).2⟩
end
end Go.Proofs.YtgeihjpifbkpkaaDoor

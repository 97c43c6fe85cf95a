/- The openers: a result that came in; a slice of them. -/
import Derived.Test.YtjdkeabimcajlaaRe
import Derived.Test.YtjdkeabimcajlaaOpenE
import Derived.Lib.LaidTab
set_option linter.unusedVariables false
set_option linter.unusedSimpArgs false
namespace Go.Proofs.Ytjdkeabimcajlaa
open Go.RowKit

section
variable {H : Type} {enc : TypeId × Value → H} {W : World} {base : Nat} {held : Bool}
theorem open_32 {fuel : Nat} {cs : List Value} {x : DataW H × List MemPlace} (hl : cs.length = 32) (hf : DataW.trod enc Try.prog W base (fun _ => true) held fuel 37 cs = some x) : ∃ l : List UInt8, cs = bs l ∧ l.length = 32 := by
  have each : ∀ i, i < 32 → ∃ z : Int, cs[i]? = some (.int .u8 z) ∧ 0 ≤ z ∧ z < 256 := by
    intro i hi
    cases fuel with
    | zero => simp [DataW.trod] at hf
    | succ m =>
      simp only [DataW.trod, Try.underlying37] at hf
      split at hf
      · obtain ⟨ys, hm, hx⟩ := Option.map_eq_some_iff.1 hf
        obtain ⟨b, hb, hf'⟩ := Go.Lib.mapM_at hm i i (by simp [hi])
        obtain ⟨a, ea, -, wa⟩ := DataW.trod_int Try.underlying5 hf'
        have hc : Try.prog.cellsOf 5 = 1 := by kernel_rfl
        rw [hc] at ea
        refine ⟨a, ?_, ?_⟩
        · have := congrArg (·[0]?) ea
          simpa [List.getElem?_take, List.getElem?_drop] using this
        · simp [Lit.wf, IntKind.min, IntKind.max, IntKind.signed, IntKind.bits] at wa
          omega
      · cases hf
  refine ⟨(List.range 32).map fun i => match cs[i]? with | some (Value.int _ z) => UInt8.ofNat z.toNat | _ => 0, ?_, by simp⟩
  apply List.ext_getElem?
  intro i
  by_cases hi : i < 32
  · obtain ⟨z, hz, z0, z1⟩ := each i hi
    rw [hz]
    simp [bs, hi, hz]
    omega
  · rw [List.getElem?_eq_none (by omega)]
    simp [bs, hi]
theorem at_of_toList {fs : Array Field} {a b c : Field} (h : fs.toList = [a, b, c]) : fs[0]? = some a ∧ fs[1]? = some b ∧ fs[2]? = some c ∧ fs.size = 3 := by
  have e : fs = #[a, b, c] := by apply Array.ext'; rw [h]
  subst e; exact ⟨rfl, rfl, rfl, rfl⟩
theorem open_res {fuel : Nat} {cs : List Value} {x : DataW H × List MemPlace} (hf : DataW.trod enc Try.prog W base (fun _ => true) held fuel 39 cs = some x) : ∃ r : Res, cs = r.cells := by
  obtain ⟨f0, f1, f2, hfs, h0, h1, h2⟩ := three_of_map fields39
  simp only [Prod.mk.injEq] at h0 h1 h2
  obtain ⟨n0, t0, o0⟩ := h0
  obtain ⟨n1, t1, o1⟩ := h1
  obtain ⟨n2, t2, o2⟩ := h2
  obtain ⟨a0, a1, a2, asz⟩ := at_of_toList hfs
  obtain ⟨ys, n, rfl, rfl, hcl, hyl, hg⟩ := DataW.trod_struct struct39 hf
  have hc39 : Try.prog.cellsOf 39 = 65 := by kernel_rfl
  have hc37 : Try.prog.cellsOf 37 = 32 := by kernel_rfl
  have hc3 : Try.prog.cellsOf 3 = 1 := by kernel_rfl
  rw [hc39] at hcl
  rw [asz] at hyl
  match ys, hyl with
  | [y0, y1, y2], _ =>
    have g0 := hg 0 f0 a0
    have g1 := hg 1 f1 a1
    have g2 := hg 2 f2 a2
    rw [t0, o0, hc37] at g0
    rw [t1, o1, hc37] at g1
    rw [t2, o2, hc3] at g2
    obtain ⟨A, eA, lA⟩ := open_32 (by rw [List.length_take, List.length_drop]; omega) g0
    obtain ⟨R, eR, lR⟩ := open_32 (by rw [List.length_take, List.length_drop]; omega) g1
    obtain ⟨z, eZ, _, _⟩ := DataW.trod_int Try.underlying3 g2
    refine ⟨⟨A, R, z, lA, lR⟩, ?_⟩
    simp only [Res.cells]
    rw [← eA, ← eR, ← eZ, List.drop_zero]
    have h1 : (cs.drop 64).take 1 = cs.drop 64 := List.take_of_length_le (by rw [List.length_drop]; omega)
    rw [h1]
    have h2 : (cs.drop 32).take 32 ++ cs.drop 64 = cs.drop 32 := by
      rw [show 64 = 32 + 32 from rfl, ← List.drop_drop, List.take_append_drop]
    rw [h2, List.take_append_drop]
theorem open_table {a : Option Addr} {len cap : Nat} {d : DataW H} {ps : List MemPlace}
    (h : DataW.Trod enc Try.prog W base (fun _ => true) held 22 (.slice a len cap) d ps) (hw : ∀ n ∈ d.weights Try.prog 22, n ≤ reachBytes) : ∃ l, RsIn W a len cap l := by
  have hC : Try.prog.cellsOf 39 = 65 := by kernel_rfl
  have hb : Try.prog.bytesOf 39 = 72 := by kernel_rfl
  obtain ⟨hle, hnil, hreach, hmax, vs, hvl, hrd, hel⟩ := open_elems Try.underlying22 hC (by omega) h hw
  rw [hb] at hreach
  have each : ∀ i, i < len → ∃ r : Res, (vs.drop (i * 65)).take 65 = r.cells := by
    intro i hi
    obtain ⟨n, x, hx, _⟩ := hel i hi
    exact open_res hx
  have : Inhabited Res := ⟨⟨List.replicate 32 0, List.replicate 32 0, 0, rfl, rfl⟩⟩
  obtain ⟨y, hy⟩ := Deep.choose_lt each
  have hvs : vs = cellsOf ((List.range len).map y) := by
    apply List.ext_getElem?
    intro k
    by_cases hk : k < len * 65
    · have hi : k / 65 < len := by omega
      have h1 := cellsOf_get (l := (List.range len).map y) (i := k / 65) (x := y (k / 65)) (by simp [hi]) (j := k % 65) (by omega)
      have h2 := part_get (hy (k / 65) hi) (j := k % 65) (by omega)
      rw [show k / 65 * 65 + k % 65 = k by omega] at h1 h2
      rw [h1, h2]
    · rw [List.getElem?_eq_none (by omega), List.getElem?_eq_none (by rw [cellsOf_len]; simp; omega)]
  have hcm : len * 72 ≤ cap * 72 := Nat.mul_le_mul_right _ hle
  exact ⟨(List.range len).map y, by simp, by rw [← hvs]; exact hrd, hle, hnil, by simpa [maxLen] using hmax, by omega⟩
end
end Go.Proofs.Ytjdkeabimcajlaa

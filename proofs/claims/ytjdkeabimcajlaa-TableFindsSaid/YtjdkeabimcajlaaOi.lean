/- An array of 32 bytes that came in. -/
import Derived.Test.YtjdkeabimcajlaaOr
import Derived.Lib.LaidTab
set_option linter.unusedVariables false
set_option linter.unusedSimpArgs false
namespace Go.Proofs.Ytjdkeabimcajlaa
open Go.RowKit Go.ChangeShapes Go.WideShapes

section
variable {H : Type} {enc : TypeId × Value → H} {W : World} {base : Nat} {held : Bool}
/-- An array of 32 bytes that came in. -/
theorem open_id {r : Reach} {v : Value} {d : DataW H} {ps : List MemPlace} (hv : Value.okWide Try.prog W r base 37 v)
    (h : DataW.Trod enc Try.prog W 0 (fun _ => true) held 37 v d ps) (hw : ∀ n ∈ d.weights Try.prog 37, n ≤ reachBytes) : ∃ l : List UInt8, v = .agg (bs l).toArray ∧ l.length = 32 := by
  obtain ⟨xs, rfl, hn⟩ : ∃ xs : Array Value, v = .agg xs ∧ xs.size = 32 := by
    simp only [Value.okWide, Try.underlying37] at hv
    obtain ⟨cs, h1, h2, _⟩ := hv
    exact ⟨cs, h1, h2.trans (by kernel_rfl)⟩
  obtain ⟨fuel, hf⟩ := h
  have each : ∀ i, i < 32 → ∃ z : Int, xs[i]? = some (.int .u8 z) ∧ 0 ≤ z ∧ z < 256 := by
    intro i hi
    cases fuel with
    | zero => simp [DataW.trod] at hf
    | succ m =>
      simp only [DataW.trod, Try.underlying37] at hf
      split at hf
      · obtain ⟨ys, hm, hx⟩ := Option.map_eq_some_iff.1 hf
        obtain ⟨b, hb, hf'⟩ := Go.Lib.mapM_at hm i i (by simp [hi])
        obtain ⟨a, ea, -, wa⟩ := DataW.trod_int Try.underlying5 hf'
        have hc : Try.prog.cellsOf 5 = 1 := by kernel_rfl
        rw [hc] at ea
        refine ⟨a, ?_, ?_⟩
        · have := congrArg (·[0]?) ea
          simpa [Value.cells, List.getElem?_take, List.getElem?_drop] using this
        · simp [Lit.wf, IntKind.min, IntKind.max, IntKind.signed, IntKind.bits] at wa
          omega
      · cases hf
  refine ⟨(List.range 32).map fun i => match xs[i]? with | some (Value.int _ z) => UInt8.ofNat z.toNat | _ => 0, ?_, by simp⟩
  congr 1
  apply Array.ext_getElem?
  intro i
  by_cases hi : i < 32
  · obtain ⟨z, hz, z0, z1⟩ := each i hi
    rw [hz]
    simp [bs, hi, hz]
    omega
  · rw [Array.getElem?_eq_none (by omega)]
    simp [bs, hi]
end

end Go.Proofs.Ytjdkeabimcajlaa

/- TableWiths: what its row is made of: the opener of an argument that is one result. -/
import Derived.Test.YtjdkeabimcajlaaTw
import Derived.Test.YtjdkeabimcajlaaOr
set_option linter.unusedVariables false
set_option linter.unusedSimpArgs false
namespace Go.Proofs.Ytjdkeabimcajlaa
open Go.RowKit Go.ChangeShapes Go.WideShapes

section
variable {H : Type} {enc : TypeId × Value → H} {W : World} {base : Nat} {held : Bool}
theorem open_result {r : Reach} {v : Value} {d : DataW H} {ps : List MemPlace} (hv : Value.okWide Try.prog W r base 39 v)
    (h : DataW.Trod enc Try.prog W 0 (fun _ => true) held 39 v d ps) (hw : ∀ n ∈ d.weights Try.prog 39, n ≤ reachBytes) : ∃ x : Res, v = .agg x.cells.toArray ∧ True := by
  obtain ⟨xs, rfl⟩ : ∃ xs : Array Value, v = .agg xs := by
    simp only [Value.okWide, struct39] at hv
    obtain ⟨cs, h1, h2⟩ := hv
    exact ⟨cs, h1⟩
  obtain ⟨fuel, hf⟩ := h
  obtain ⟨x, hx⟩ := open_res hf
  refine ⟨x, ?_, trivial⟩
  congr 1
  apply Array.ext'
  rw [← hx]; rfl
end
theorem tableWiths_walk' (a : Option Addr) (n c : Nat) (l : List Res) (x : Res) (w : World) (hx : RsIn w a n c l) (_ : True) :
    Calls Try.prog 4 #[.slice a n c, .agg x.cells.toArray] w fun e w' => e = .returned (.bool true) ∧ Keep [] w w' := tableWiths_walk a n c l x w hx
end Go.Proofs.Ytjdkeabimcajlaa

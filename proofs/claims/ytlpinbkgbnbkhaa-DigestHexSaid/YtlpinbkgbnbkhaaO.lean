/- DigestHex: the walk. -/
import Derived.Test.YtlpinbkgbnbkhaaJ
import Derived.Test.YtlpinbkgbnbkhaaM
import Derived.Lib.LaidTab
set_option linter.unusedVariables false
set_option linter.unusedSimpArgs false
namespace Go.Proofs.Ytlpinbkgbnbkhaa
open Go.RowKit Go.ChangeShapes Go.WideShapes

section
variable {H : Type} {enc : TypeId × Value → H} {W : World} {base : Nat} {held : Bool}
/-- An array of 32 bytes that came in. -/
theorem open_id {r : Reach} {v : Value} {d : DataW H} {ps : List MemPlace} (hv : Value.okWide Try.prog W r base 33 v)
    (h : DataW.Trod enc Try.prog W 0 (fun _ => true) held 33 v d ps) (hw : ∀ n ∈ d.weights Try.prog 33, n ≤ reachBytes) : ∃ l : List UInt8, v = .agg (bs l).toArray ∧ l.length = 32 := by
  obtain ⟨xs, rfl, hn⟩ : ∃ xs : Array Value, v = .agg xs ∧ xs.size = 32 := by
    simp only [Value.okWide, Try.underlying33] at hv
    obtain ⟨cs, h1, h2, _⟩ := hv
    exact ⟨cs, h1, h2.trans (by kernel_rfl)⟩
  obtain ⟨fuel, hf⟩ := h
  have each : ∀ i, i < 32 → ∃ z : Int, xs[i]? = some (.int .u8 z) ∧ 0 ≤ z ∧ z < 256 := by
    intro i hi
    cases fuel with
    | zero => simp [DataW.trod] at hf
    | succ m =>
      simp only [DataW.trod, Try.underlying33] at hf
      split at hf
      · obtain ⟨ys, hm, hx⟩ := Option.map_eq_some_iff.1 hf
        obtain ⟨b, hb, hf'⟩ := Go.Lib.mapM_at hm i i (by simp [hi])
        obtain ⟨a, ea, -, wa⟩ := DataW.trod_int Try.underlying5 hf'
        have hc : Try.prog.cellsOf 5 = 1 := by kernel_rfl
        rw [hc] at ea
        refine ⟨a, ?_, ?_⟩
        · have := congrArg (·[0]?) ea
          simpa [Value.cells, List.getElem?_take, List.getElem?_drop] using this
        · simp [Lit.wf, IntKind.min, IntKind.max, IntKind.signed, IntKind.bits] at wa
          omega
      · cases hf
  refine ⟨(List.range 32).map fun i => match xs[i]? with | some (Value.int _ z) => UInt8.ofNat z.toNat | _ => 0, ?_, by simp⟩
  congr 1
  apply Array.ext_getElem?
  intro i
  by_cases hi : i < 32
  · obtain ⟨z, hz, z0, z1⟩ := each i hi
    rw [hz]
    simp [bs, hi, hz]
    omega
  · rw [Array.getElem?_eq_none (by omega)]
    simp [bs, hi]
end

set_option maxHeartbeats 8000000 in
set_option maxRecDepth 100000 in
theorem digestHex_walk (xs : List UInt8) (w : World) (hl : xs.length = 32) :
    Calls Try.prog 5 #[.agg (bs xs).toArray] w fun e w' => e = .returned (.bool true) ∧ Keep [] w w' := by
  have eqI : ∀ W, (Op.equalIn 10000 33 (.agg (bs xs).toArray) (.agg (bs xs).toArray)).run Try.prog W = .ok true W := fun W => by
    have := run_equalIn_bytes (P := Try.prog) W 9998 33 5 32 Try.underlying33 Try.underlying5 (fun w => Try.sizeOf5 w) xs xs hl hl
    rw [beq_self_eq_true] at this
    exact this
  obtain ⟨X, hX⟩ : ∃ X, (bs xs).toArray = X := ⟨_, rfl⟩
  have hsz : X.size = 32 := by rw [← hX]; exact size32 xs hl
  have hall : X.all (·.oneCell') = true := by rw [← hX]; exact bs_all xs
  obtain ⟨S, hS⟩ : ∃ S, strOf (hexOf xs) = S := ⟨_, rfl⟩
  have h1 : ∀ W, Calls Try.prog 23 #[.agg X] W fun e w' => e = .returned (.string S) ∧ Keep [] W w' := fun W => by rw [← hX, ← hS]; exact hex_any xs W hl
  have h2 : ∀ W, Calls Try.prog 25 #[.agg X] W fun e w' => e = .returned (.string S) ∧ Keep [] W w' := fun W => by rw [← hX, ← hS]; exact refHex_any xs W hl
  have h3 : ∀ W, Calls Try.prog 24 #[.string S] W fun e w' => e = .returned (.tuple #[.agg X, .int .i64 0]) ∧ Keep [] W w' := fun W => by
    have := parse_any (hexOf xs) 64 W (by rw [hexOf_length, hl]) (by omega)
    rw [(parse_hex hl).1, (parse_hex hl).2, hX, hS] at this
    exact this
  rw [hX] at eqI ⊢
  have H1 := Lib.hid h1
  have H2 := Lib.hid h2
  have H3 := Lib.hid h3
  have HSZ := Lib.hid hsz
  have HALL := Lib.hid hall
  clear h1 h2 h3 hsz hall hX hS hl
  go_enter Try.func5, Try.ntmps5
  obtain ⟨B, hB⟩ : ∃ B, B = w.heap.size := ⟨_, rfl⟩
  obtain ⟨W0, hW0⟩ : ∃ W0, W0 = w.alloc (.cells X 33) := ⟨_, rfl⟩
  have hB0 : Blk W0 B X 33 := by rw [hB, hW0]; exact Blk.new w X 33
  have k0 : Keep [] w W0 := by rw [hW0]; exact (Keep.refl [] w).alloc _
  go_upto_region 1 with fail
  rw [← hB, ← hW0]
  clear hB hW0
  go_upto_region 3 with (first
    | (refine wpList_load_row rfl 33 (.tmp 1) rfl B rfl 33 X (0, 0) _ hB0 Try.underlying33 rfl (by rw [HSZ.out]; rfl) ?_)
    | (go_at_call 23; refine (H1.out _).mono ?_; rintro e w1 ⟨rfl, hk1⟩)
    | (go_at_call 24; refine (H3.out _).mono ?_; rintro e w2 ⟨rfl, hk2⟩)
    | (refine wpList_store_last rfl 33 (.tmp 4) (.tmp 11) rfl _ _ X rfl rfl rfl (by rw [HSZ.out]; rfl) (by rw [HSZ.out]; rfl) HALL.out ?_)
    | fail)
  have kk : Keep [] W0 (w2.alloc (.cells X 33)) := (hk1.trans' hk2).alloc _
  have B1 : Blk (w2.alloc (.cells X 33)) w2.heap.size X 33 := Blk.new w2 _ 33
  have B0 := hB0.keep kk (by simp)
  have kC := k0.trans' kk
  obtain ⟨W2, hW2⟩ : ∃ W, w2.alloc (.cells X 33) = W := ⟨_, rfl⟩
  obtain ⟨P, hP⟩ : ∃ P, w2.heap.size = P := ⟨_, rfl⟩
  rw [hW2] at B1 B0 kC ⊢
  rw [hP] at B1
  simp only [hP]
  clear hW2 hP kk hk1 hk2 hB0 k0
  go_wp2_with (first
    | (go_at_call 13; refine (known_any W2).mono ?_; rintro e w3 ⟨rfl, hk3⟩
       have C0 := B0.keep hk3 (by simp)
       have C1 := B1.keep hk3 (by simp))
    | (go_at_call 25; refine (H2.out _).mono ?_; rintro e w4 ⟨rfl, hk4⟩
       have D0 := C0.keep hk4 (by simp)
       have D1 := C1.keep hk4 (by simp))
    | (refine wpList_load_row_w 33 (.tmp 4) rfl rfl P rfl 33 X (0, 0) _ D1 Try.underlying33 rfl (by rw [HSZ.out]; rfl) ?_)
    | (refine wpList_load_row_w 33 (.tmp 1) rfl rfl B rfl 33 X (0, 0) _ D0 Try.underlying33 rfl (by rw [HSZ.out]; rfl) ?_)
    | (refine wpList_load_row_w 33 (.tmp 1) rfl rfl B rfl 33 X (0, 0) _ C0 Try.underlying33 rfl (by rw [HSZ.out]; rfl) ?_)
    | fail)
  go_returns
  exact ⟨rfl, (kC.trans' hk3).trans' hk4⟩
end Go.Proofs.Ytlpinbkgbnbkhaa

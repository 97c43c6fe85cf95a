/- begin; ask: it gives up, unless it is so. -/
import Derived.Test.YtgeihjpifbkpkaaDoorEn
import Derived.WalkLawsBesides
set_option linter.unusedVariables false
set_option linter.unusedSimpArgs false
namespace Go.Proofs.YtgeihjpifbkpkaaDoor
open Go.RowKit

/-- What a reader gives up with. -/
def gone : PanicEntry := { v := .iface 65 (.agg #[]), recovered := false }
abbrev rdr (P : Nat) : Value := .agg #[.pointer (some ⟨P, 0, none⟩)]

theorem fr_old {w : World} {S : List Nat} (f : Fr w [] S) : ∀ b ∈ S, w.heap.size ≤ b := fun b hb => by
  rcases f b hb with h | h
  · cases h
  · exact h
set_option maxHeartbeats 1000000 in
set_option maxRecDepth 100000 in
theorem begin_any (a : Option Addr) (n c : Nat) (xs : List UInt8) (w : World) (hl : xs.length = n) (hc : a = none → c = 0) (hrd : Rd w a (bs xs)) (hn : n ≤ 140737488355328) :
    Calls Tryd.prog 37 #[.slice a n c] w fun e w' => ∃ P S, e = .returned (rdr P) ∧ RdAt w' P S xs ⟨0, 0, 0⟩ ∧ Fr w [] S ∧ Keep [] w w' := by
  have k0 : Keep [] w (w.alloc (.cells #[.pointer none] 69)) := (Keep.refl [] w).alloc _
  have B0 : Blk (w.alloc (.cells #[.pointer none] 69)) w.heap.size #[.pointer none] 69 := Blk.new _ _ _
  obtain ⟨W, hW⟩ : ∃ W, w.alloc (.cells #[.pointer none] 69) = W := ⟨_, rfl⟩
  obtain ⟨R, hR⟩ : ∃ R, w.heap.size = R := ⟨_, rfl⟩
  have hRw : w.heap.size ≤ R := by omega
  rw [hW] at k0 B0
  rw [hR] at B0
  have HW := Lib.hid hW
  have HR := Lib.hid hR
  have C := Lib.hid (read_any a n c xs W hl hc (hrd.keep k0 (fun _ => by simp)) hn)
  clear hW hR hrd
  go_enter Tryd.func37, Tryd.ntmps37
  go_upto_region 1 with fail
  rw [HW.out, HR.out]
  go_wp2_with (first
    | (go_at_call 46; refine C.out.mono ?_; rintro e w1 ⟨P, S, rfl, hRd, hF, k1⟩; have B1 := B0.keep k1 (by simp); have c1 : w1.cell? ⟨R, 0, none⟩ = some (.pointer none) := B1.cell (i := 0) rfl; have f1 : w1.frozen? ⟨R, 0, none⟩ = false := B1.free)
    | fail)
  have hRS : R ∉ S := fun h => by
    have h1 := fr_old hF R h
    have h2 := B0.lt
    omega
  have B2 := B1.set 0 (.pointer (some ⟨P, 0, none⟩))
  have k2 := Keep.set_one w1 ⟨R, 0, none⟩ (.pointer (some ⟨P, 0, none⟩))
  exact bodyPost_ret (results_cell_row rfl _ _ R 69 #[.pointer (some ⟨P, 0, none⟩)] (0, 0) _ rfl B2 Tryd.underlying69 rfl (by kernel_rfl)) rfl
    ⟨P, S, rfl, hRd.keep k2 (fun b hb => by simp only [List.mem_singleton]; rintro rfl; exact hRS hb), hF.le k0.size, (k0.trans' k1).trans k2 (fun b hb => Or.inr (by simp only [List.mem_singleton] at hb; subst hb; exact hRw))⟩

set_option maxHeartbeats 1000000 in
set_option maxRecDepth 100000 in
theorem ask_no (P : Nat) (S : List Nat) (d : List UInt8) (s : RS) (ok : Bool) (w : World) (h : RdAt w P S d s) (hq : ok = false ∨ s.code ≠ 0) :
    Calls Tryd.prog 38 #[rdr P, .bool ok] w fun e w' => e = .panicked [gone] ∧ Keep [] w w' := by
  have k0 : Keep [] w (w.alloc (.cells #[.pointer (some ⟨P, 0, none⟩)] 69)) := (Keep.refl [] w).alloc _
  have B0 : Blk (w.alloc (.cells #[.pointer (some ⟨P, 0, none⟩)] 69)) w.heap.size #[.pointer (some ⟨P, 0, none⟩)] 69 := Blk.new _ _ _
  obtain ⟨W, hW⟩ : ∃ W, w.alloc (.cells #[.pointer (some ⟨P, 0, none⟩)] 69) = W := ⟨_, rfl⟩
  obtain ⟨R, hR⟩ : ∃ R, w.heap.size = R := ⟨_, rfl⟩
  rw [hW] at k0 B0
  rw [hR] at B0
  have c0 : W.cell? ⟨R, 0, none⟩ = some (.pointer (some ⟨P, 0, none⟩)) := B0.cell (i := 0) rfl
  have HW := Lib.hid hW
  have HR := Lib.hid hR
  have C := Lib.hid (rerr_any P S d s W (h.keep k0 (by simp)))
  obtain ⟨cd, hcd⟩ : ∃ c, s.code = c := ⟨_, rfl⟩
  rw [hcd] at C hq
  clear hW hR hcd
  cases ok with
  | false =>
    go_enter Tryd.func38, Tryd.ntmps38
    go_upto_region 1 with fail
    rw [HW.out, HR.out]
    go_wp2_with (first
      | (go_at_call 47; refine C.out.mono ?_; rintro e w1 ⟨rfl, hR1, k1⟩)
      | fail)
    exact ⟨rfl, rfl, k0.trans' k1⟩
  | true =>
    have hq2 : cd ≠ 0 := by rcases hq with h | h; cases h; exact h
    have q : (cd != 0) = true := by simpa using hq2
    clear hq
    go_enter Tryd.func38, Tryd.ntmps38
    go_upto_region 1 with fail
    rw [HW.out, HR.out]
    go_wp2_with (first
      | (go_at_call 47; refine C.out.mono ?_; rintro e w1 ⟨rfl, hR1, k1⟩)
      | fail)
    exact ⟨rfl, rfl, k0.trans' k1⟩

set_option maxHeartbeats 1000000 in
set_option maxRecDepth 100000 in
theorem ask_yes (P : Nat) (S : List Nat) (d : List UInt8) (s : RS) (w : World) (h : RdAt w P S d s) (hq : s.code = 0) :
    Calls Tryd.prog 38 #[rdr P, .bool true] w fun e w' => e = .returned (.tuple #[]) ∧ Keep [] w w' := by
  have k0 : Keep [] w (w.alloc (.cells #[.pointer (some ⟨P, 0, none⟩)] 69)) := (Keep.refl [] w).alloc _
  have B0 : Blk (w.alloc (.cells #[.pointer (some ⟨P, 0, none⟩)] 69)) w.heap.size #[.pointer (some ⟨P, 0, none⟩)] 69 := Blk.new _ _ _
  obtain ⟨W, hW⟩ : ∃ W, w.alloc (.cells #[.pointer (some ⟨P, 0, none⟩)] 69) = W := ⟨_, rfl⟩
  obtain ⟨R, hR⟩ : ∃ R, w.heap.size = R := ⟨_, rfl⟩
  rw [hW] at k0 B0
  rw [hR] at B0
  have c0 : W.cell? ⟨R, 0, none⟩ = some (.pointer (some ⟨P, 0, none⟩)) := B0.cell (i := 0) rfl
  have HW := Lib.hid hW
  have HR := Lib.hid hR
  have C := rerr_any P S d s W (h.keep k0 (by simp))
  rw [hq] at C
  have HC := Lib.hid C
  clear hW hR C hq
  go_enter Tryd.func38, Tryd.ntmps38
  go_upto_region 1 with fail
  rw [HW.out, HR.out]
  go_wp2_with (first
    | (go_at_call 47; refine HC.out.mono ?_; rintro e w1 ⟨rfl, hR1, k1⟩)
    | fail)
  go_returns
  exact ⟨rfl, k0.trans' k1⟩
/-- ask, at any ok. -/
theorem ask_any (P : Nat) (S : List Nat) (d : List UInt8) (s : RS) (ok : Bool) (w : World) (h : RdAt w P S d s) :
    Calls Tryd.prog 38 #[rdr P, .bool ok] w fun e w' => e = (if ok = true ∧ s.code = 0 then .returned (.tuple #[]) else .panicked [gone]) ∧ Keep [] w w' := by
  by_cases hq : ok = true ∧ s.code = 0
  · obtain ⟨rfl, h0⟩ := hq
    rw [if_pos ⟨rfl, h0⟩]; exact ask_yes P S d s w h h0
  · rw [if_neg hq]
    refine ask_no P S d s ok w h ?_
    cases ok with
    | false => exact Or.inl rfl
    | true => exact Or.inr (fun e => hq ⟨rfl, e⟩)
end Go.Proofs.YtgeihjpifbkpkaaDoor

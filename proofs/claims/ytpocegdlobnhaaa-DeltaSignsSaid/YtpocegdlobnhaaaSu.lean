/- Steps of a region that draws its order. No function in sight. -/
import Derived.Test.YtpocegdlobnhaaaSt
set_option linter.unusedVariables false
set_option linter.unusedSimpArgs false
set_option maxRecDepth 100000
namespace Go.Proofs.Ytpocegdlobnhaaa
open Go.RowKit
section
variable {P : Program}
theorem step_build1 {ops : Array Oper} {o : Oper} {a : Act} {w : World} {K : Act → World → Prop} {Q : Exit → Act → World → Prop} {E : Prop} (hgd : o.guard = none) (t e : TypeId) (x : Operand) (ho : o.op = .buildSlice t 1 #[(0, x)])
    (cs : Array Value) (hx : a.eval x = .agg cs) (z : Value) (sz bytes : Nat) (hu : P.underlying t = some (.slice e)) (hinfo : (P.info? e).map (fun i => (i.zero, i.size, i.bytes)) = some (some z, sz, bytes)) (hsz : cs.size = sz) (h0 : 0 < sz) (h1 : sz ≤ 1000)
    (h : K (a.put o.dst (.slice (some ⟨w.heap.size, 0, none⟩) 1 1)) (w.alloc (.cells cs e))) : if Region.wanted o (yielded ops a.tmps) = true then Oper.wp P o a w K Q else E := by
  have hw : Region.wanted o (yielded ops a.tmps) = true := by simp [Region.wanted, hgd]
  rw [if_pos hw]
  obtain ⟨i, hi, hz, hs, hb⟩ := info_parts hinfo
  refine wp_buildSlice t e 1 #[(0, x)] ho cs i z hu hi hz (by rw [hs]; omega) (by rw [hs]; omega) ?_ h
  have hl : ((Array.range (1 * i.size)).map (fun j => z.cells[j % z.cells.size]!)).size = i.size := by simp
  have := fill_one cs ((Array.range (1 * i.size)).map (fun j => z.cells[j % z.cells.size]!)) (by rw [hl, hs, hsz])
  rw [hl] at this
  simpa [hx] using this
theorem step_appendN {ops : Array Oper} {o : Oper} {a : Act} {w : World} {K : Act → World → Prop} {Q : Exit → Act → World → Prop} {E : Prop} (hgd : o.guard = none) (s x : Operand) (t : TypeId)
    (ho : o.op = .call { callee := .builtin .append, args := #[s, x], argTypes := #[t, t] })
    (e : TypeId) (z : Value) (sz bytes : Nat) (ht : P.underlying t = some (.slice e)) (hinfo : (P.info? e).map (fun i => (i.zero, i.size, i.bytes)) = some (some z, sz, bytes)) (hz : z.cells.size = sz) (hsz : 0 < sz)
    (v : Value) (n : Nat) (vs : List Value) (hs : a.eval s = v) (hown : Sl w e sz v n vs)
    (sp : Option Addr) (m c : Nat) (news : List Value) (hx : a.eval x = .slice sp m c) (hl : news.length = m * sz) (hc : sp = none → c = 0) (hrd : Rd w sp news) (h1 : ∀ u ∈ news, u.oneCell' = true)
    (h63 : n + m ≤ maxLen) (hbytes : (n + m) * bytes ≤ 140737488355328)
    (h : ∀ a' c' w', Sl w' e sz (.slice a' (n + m) c') (n + m) (vs ++ news) → Keep (blks v) w w' → Fr w (blks v) (blks (.slice a' (n + m) c')) → K (a.put o.dst (.slice a' (n + m) c')) w') : if Region.wanted o (yielded ops a.tmps) = true then Oper.wp P o a w K Q else E := by
  refine step_appendS hgd s x t ho e z sz bytes ht hinfo hz hsz v n vs hs hown sp m c news hx hl hc hrd h1 h63 hbytes ?_
  intro v' w' h2 h3 h4
  obtain ⟨a', c', rfl, -⟩ := h2.form
  refine h a' c' w' h2 h3 (fun b hb => ?_)
  rcases h4 with e | e
  · rw [e] at hb; exact Or.inl hb
  · exact Or.inr (e b hb)
end
theorem step_of {P : Program} {ops : Array Oper} {o : Oper} {a : Act} {w : World} {K : Act → World → Prop} {Q : Exit → Act → World → Prop} {E : Prop} (hgd : o.guard = none) (h : Oper.wp P o a w K Q) : if Region.wanted o (yielded ops a.tmps) = true then Oper.wp P o a w K Q else E := by
  have hw : Region.wanted o (yielded ops a.tmps) = true := by simp [Region.wanted, hgd]
  rw [if_pos hw]; exact h
theorem fill_slice (ad : Option Addr) (n c : Nat) (z : Value) : Instr.fill (fun i => some (i * 1, 1)) #[z] [(0, .slice ad n c)] = some #[.slice ad n c] := by
  simp [Instr.fill, Value.cells]
/-- [][]byte{x} -/
theorem wp_buildS {P : Program} {o : Oper} {a : Act} {w : World} {K : Act → World → Prop} {Q : Exit → Act → World → Prop} (t e : TypeId) (x : Operand) (ho : o.op = .buildSlice t 1 #[(0, x)])
    (ad : Option Addr) (n c : Nat) (hx : a.eval x = .slice ad n c) (z : Value) (bytes : Nat) (hu : P.underlying t = some (.slice e)) (hinfo : (P.info? e).map (fun i => (i.zero, i.size, i.bytes)) = some (some z, 1, bytes)) (hz1 : z.cells.size = 1)
    (h : K (a.put o.dst (.slice (some ⟨w.heap.size, 0, none⟩) 1 1)) (w.alloc (.cells #[.slice ad n c] e))) : Oper.wp P o a w K Q := by
  obtain ⟨i, hi, hz, hs, hb⟩ := info_parts hinfo
  refine wp_buildSlice t e 1 #[(0, x)] ho #[.slice ad n c] i z hu hi hz (by rw [hs]; omega) (by rw [hs]; omega) ?_ h
  have e1 : (Array.range (1 * i.size)).map (fun j => z.cells[j % z.cells.size]!) = #[z.cells[0]!] := by
    apply Array.ext
    · simp [hs]
    · intro j h1 h2
      have hj : j = 0 := by simp at h2; exact h2
      subst hj; simp [hz1]
  rw [e1, hs]
  simpa [hx] using fill_slice ad n c z.cells[0]!
theorem info22 : (Try.prog.info? 22).map (fun i => (i.zero, i.size, i.bytes)) = some (some (.slice none 0 0), 1, 24) := by kernel_rfl
end Go.Proofs.Ytpocegdlobnhaaa

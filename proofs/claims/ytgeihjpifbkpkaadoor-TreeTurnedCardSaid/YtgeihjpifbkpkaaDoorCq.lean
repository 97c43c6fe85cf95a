/- copy of elements of any width into a block known whole; rows spliced; a place made by append in a new block. No program in sight. -/
import Derived.Test.YtgeihjpifbkpkaaDoorAk
import Derived.Lib.AppendZerosOnto
import Derived.Lib.Overlaps
set_option linter.unusedVariables false
set_option linter.unusedSimpArgs false
namespace Go.Proofs.YtgeihjpifbkpkaaDoor
open Go.RowKit

theorem run_copy_wide {P : Program} (w : World) (dT sT ty elem : TypeId) (sz g o dLen dCap : Nat) (a : Addr) (sLen sCap : Nat) (cur : Array Value) (t : TypeId) (cs : List Value)
    (hu : P.underlying dT = some (.slice elem)) (hs : (P.info? elem).map (·.size) = some sz) (hg : Blk w g cur t) (hn : cs.length = Nat.min sLen dLen * sz)
    (hsrc : ∀ j v, cs[j]? = some v → w.cell? (a.add j) = some v) (hfit : o + cs.length ≤ cur.size) (h1 : ∀ v ∈ cs, v.oneCell' = true) :
    (Builtin.copy_ #[dT, sT] ty #[.slice (some ⟨g, o, none⟩) dLen dCap, .slice (some a) sLen sCap]).run P w =
      .ok (goInt (Nat.min sLen dLen : Nat)) (w.setRow g (cur.toList.take o ++ cs ++ cur.toList.drop (o + cs.length)).toArray) := by
  have hl := run_loadCells_list (P := P) w a cs hsrc
  have hst := run_storeCells_at P g o t cs 0 cur w hg (by simpa using hfit) h1
  rw [hn] at hl
  cases hq : P.info? elem with
  | none => simp [hq] at hs
  | some i =>
    have hi : i.size = sz := by simpa [hq] using hs
    have hl' : (loadCells a (sLen.min dLen * sz)).run P w = .ok cs.toArray w := hl
    have hst' := hst
    simp [Builtin.copy_, run_underlying hu, Builtin.lenOf, Builtin.firstCells, sizeOf, typeInfo, hq, hi, hl', hst]

/-- A row of which a piece is put anew. -/
theorem splice {P M S X row : List Value} {o : Nat} (h : row = P ++ (M ++ S)) (ho : P.length = o) (hx : X.length = M.length) : row.take o ++ X ++ row.drop (o + X.length) = P ++ (X ++ S) := by
  subst ho; rw [h, hx, List.take_left, ← List.append_assoc P M S, ← List.length_append, List.drop_left, List.append_assoc]

theorem blk_of {w : World} {b : Nat} {c d : Array Value} {t : TypeId} (h : Blk w b c t) (e : c = d) : Blk w b d t := e ▸ h

section
variable {P : Program} {w : World}
theorem wpList_copyW {ops : Array Oper} {rest : List Oper} {o : Oper} {a : Act} {Q : Exit → Act → World → Prop} (hgd : o.guard = none) (d s : Operand) (t t' : TypeId)
    (ho : o.op = .call { callee := .builtin .copy, args := #[d, s], argTypes := #[t, t'] }) (v u : Value) (hd : a.eval d = v) (hs : a.eval s = u) {v' : Value} {R : World → Prop}
    (hr : ∃ w', (∀ ty, (Builtin.copy_ #[t, t'] ty #[v, u]).run P w = .ok v' w') ∧ R w') (h : ∀ w', R w' → wpList P ops Q rest (a.put o.dst v') w') : wpList P ops Q (o :: rest) a w := by
  obtain ⟨w', hr, hR⟩ := hr
  refine wpList_plain hgd fun K hK => ?_
  unfold Oper.wp execOp
  simp only [ho, resolve, invoke, builtin, Sem.run_bind, Sem.run_pure, Result.andThen_ok, List.map_toArray, List.map_cons, List.map_nil, hd, hs, hr o.type]
  exact hK _ _ (h w' hR)
theorem step_copyW {ops : Array Oper} {o : Oper} {a : Act} {K : Act → World → Prop} {Q : Exit → Act → World → Prop} {E : Prop} (hgd : o.guard = none) (d s : Operand) (t t' : TypeId)
    (ho : o.op = .call { callee := .builtin .copy, args := #[d, s], argTypes := #[t, t'] }) (v u : Value) (hd : a.eval d = v) (hs : a.eval s = u) {v' : Value} {R : World → Prop}
    (hr : ∃ w', (∀ ty, (Builtin.copy_ #[t, t'] ty #[v, u]).run P w = .ok v' w') ∧ R w') (h : ∀ w', R w' → K (a.put o.dst v') w') :
    if Region.wanted o (yielded ops a.tmps) = true then Oper.wp P o a w K Q else E := by
  obtain ⟨w', hr, hR⟩ := hr
  have hw : Region.wanted o (yielded ops a.tmps) = true := by simp [Region.wanted, hgd]
  rw [if_pos hw]
  unfold Oper.wp execOp
  simp only [ho, resolve, invoke, builtin, Sem.run_bind, Sem.run_pure, Result.andThen_ok, List.map_toArray, List.map_cons, List.map_nil, hd, hs, hr o.type]
  exact h w' hR
/-- copy into a block known whole: what lies there after. -/
theorem copy_blk (w : World) (dT sT elem : TypeId) (sz g o dLen dCap : Nat) (a : Addr) (sLen sCap m : Nat) (row Pp M S cs : List Value) (t : TypeId)
    (hu : P.underlying dT = some (.slice elem)) (hs : (P.info? elem).map (·.size) = some sz) (hg : Blk w g row.toArray t) (hm : Nat.min sLen dLen = m) (hn : cs.length = m * sz)
    (hsrc : ∀ j v, cs[j]? = some v → w.cell? (a.add j) = some v) (h1 : ∀ v ∈ cs, v.oneCell' = true) (hrow : row = Pp ++ (M ++ S)) (hP : Pp.length = o) (hM : M.length = cs.length) :
    ∃ w', (∀ ty, (Builtin.copy_ #[dT, sT] ty #[.slice (some ⟨g, o, none⟩) dLen dCap, .slice (some a) sLen sCap]).run P w = .ok (goInt (m : Nat)) w') ∧ (Blk w' g (Pp ++ (cs ++ S)).toArray t ∧ Keep [g] w w') := by
  refine ⟨w.setRow g (row.toArray.toList.take o ++ cs ++ row.toArray.toList.drop (o + cs.length)).toArray, fun ty => ?_, ?_⟩
  · rw [run_copy_wide w dT sT ty elem sz g o dLen dCap a sLen sCap row.toArray t cs hu hs hg (by rw [hm]; exact hn) hsrc (by rw [hrow]; simp; omega) h1, hm]
  · refine ⟨?_, (Keep.refl [g] w).setRow (Or.inl (by simp)) _⟩
    have e := splice hrow hP hM.symm
    have := hg.setRow (row.toArray.toList.take o ++ cs ++ row.toArray.toList.drop (o + cs.length)).toArray
    rw [List.toList_toArray, e] at this
    rw [List.toList_toArray, e]
    exact this
theorem cut3 (zs : List Value) (p q : Nat) (h : p + q ≤ zs.length) : ∃ a b c, zs = a ++ (b ++ c) ∧ a.length = p ∧ b.length = q :=
  ⟨zs.take p, (zs.drop p).take q, (zs.drop p).drop q, by rw [List.take_append_drop, List.take_append_drop], by rw [List.length_take]; omega, by rw [List.length_take, List.length_drop]; omega⟩

/-- append of k zeros onto the head of a slice that has no room for them: a new block. -/
theorem run_append_zeros (t tn ty e : TypeId) (kn : IntKind) (z : Value) (sz bytes : Nat) (ht : P.underlying t = some (.slice e)) (htn : P.underlying tn = some (.int kn)) (hinfo : (P.info? e).map (fun i => (i.zero, i.size, i.bytes)) = some (some z, sz, bytes)) (hz : z.cells.size = sz) (hsz : 0 < sz)
    (a : Addr) (n c k : Nat) (olds : List Value) (hl : olds.length = n * sz) (hold : ∀ j v, olds[j]? = some v → w.cell? (a.add j) = some v) (hk : 0 < k) (hg : c < n + k) (hnc : n ≤ c) (h63 : n + k ≤ maxLen) (hbytes : (n + k) * bytes ≤ 140737488355328) :
    ∃ cap zs w', (Builtin.append_ #[t, tn] ty #[.slice (some a) n c, .int .i64 k]).run P w = .ok (.slice (some ⟨w.heap.size, 0, none⟩) (n + k) cap) w' ∧ Blk w' w.heap.size (olds ++ zs).toArray e ∧ n + k ≤ cap ∧ cap ≤ maxLen ∧ cap * sz ≤ n * sz + zs.length ∧ Keep [] w w' := by
  obtain ⟨i, hi, hzz, hsi, hby⟩ := info_parts hinfo
  subst hsi; subst hby
  have hge := grownCap_ge w (n + k) c e
  have hcm : grownCap w (n + k) c e ≤ maxLen := grownCap_le_maxLen w (n + k) c e h63
  have hfirst : (Builtin.firstCells i.size n (.slice (some a) n c)).run P w.drew = .ok olds.toArray w.drew := by
    have h := run_loadCells_list (P := P) w.drew a olds hold
    rw [hl] at h
    simpa [Builtin.firstCells] using h
  have hkb : k * i.bytes ≤ (n + k) * i.bytes := Nat.mul_le_mul_right _ (by omega)
  have hr := Lib.run_append_grow_zeros (P := P) w t tn ty e i z .i64 kn ht htn hi hzz (some a) n c olds hfirst k hk hsz hg (by simp only [maxLen] at h63; omega) (by omega) (growslice_fits (by omega) hbytes)
  refine ⟨_, (Builtin.zeroCells z.cells k).toList ++ (Builtin.zeroCells z.cells (grownCap w (n + k) c e - (n + k))).toList, _, hr, ?_, hge, hcm, ?_, ((Keep.refl [] w).drew).alloc _⟩
  · exact blk_of (Blk.new' w.drew _ e rfl) (by apply Array.ext'; simp)
  · rw [List.length_append, Array.length_toList, Array.length_toList, size_zeroCells, size_zeroCells, hz, ← Nat.add_mul, ← Nat.add_mul]
    exact Nat.mul_le_mul_right _ (by omega)
theorem wpList_appendZ {ops : Array Oper} {rest : List Oper} {o : Oper} {a : Act} {Q : Exit → Act → World → Prop} (hgd : o.guard = none) (s x : Operand) (t tn : TypeId)
    (ho : o.op = .call { callee := .builtin .append, args := #[s, x], argTypes := #[t, tn] }) (v u : Value) (hs : a.eval s = v) (hx : a.eval x = u) {v' : Value} {w' : World}
    (hr : (Builtin.append_ #[t, tn] o.type #[v, u]).run P w = .ok v' w') (h : wpList P ops Q rest (a.put o.dst v') w') : wpList P ops Q (o :: rest) a w := by
  refine wpList_plain hgd fun K hK => ?_
  unfold Oper.wp execOp
  simp only [ho, resolve, invoke, builtin, Sem.run_bind, Sem.run_pure, Result.andThen_ok, List.map_toArray, List.map_cons, List.map_nil, hs, hx, hr]
  exact hK _ _ h
end
end Go.Proofs.YtgeihjpifbkpkaaDoor

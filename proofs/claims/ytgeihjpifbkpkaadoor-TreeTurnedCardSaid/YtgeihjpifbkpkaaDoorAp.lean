/- append of a text's bytes to a slice that lies anywhere. -/
import Derived.Test.YtgeihjpifbkpkaaDoorIs
import Derived.Lib.AppendStr
set_option linter.unusedVariables false
set_option linter.unusedSimpArgs false
namespace Go.Proofs.YtgeihjpifbkpkaaDoor
open Go.RowKit

theorem str_cells (s : ByteArray) : Lib.strCells s = bs s.data.toList := rfl
theorem str_len (s : ByteArray) : (bs s.data.toList).length = s.size := by rw [bs_length]; exact Array.length_toList
section
variable {P : Program} (w : World)
theorem run_append_at_str (t u ty e : TypeId) (i : TypeInfo) (ht : P.underlying t = some (.slice e)) (hu : P.underlying u = some .string) (hi : P.info? e = some i) (hs1 : i.size = 1)
    (g off sLen sCap : Nat) (cur : Array Value) (hg : w.heap[g]? = some (.cells cur e (0, 0))) (s : ByteArray) (hroom : sLen + s.size ≤ sCap) (hfit : off + sLen + s.size ≤ cur.size) :
    (Builtin.append_ #[t, u] ty #[.slice (some ⟨g, off, none⟩) sLen sCap, .string s]).run P w =
      .ok (.slice (some ⟨g, off, none⟩) (sLen + s.size) sCap) (w.setRow g (cur.toList.take (off + sLen) ++ bs s.data.toList ++ cur.toList.drop (off + sLen + s.size)).toArray) := by
  have hf := Lib.run_firstCells_string (P := P) w 1 s
  have hst := run_storeCells_at P g (off + sLen) e (Lib.strCells s) 0 cur w hg (by simpa [Lib.strCells_length] using hfit) (Lib.strCells_oneCell s)
  simp only [Nat.add_zero, Lib.strCells_length] at hst
  rw [← str_cells]
  simp [Builtin.append_, run_underlying ht, run_underlying hu, sizeOf, typeInfo, hi, hs1, Builtin.lenOf, hroom, hf, Addr.add_lit, hst]
theorem run_appendT (t u ty e : TypeId) (ht : P.underlying t = some (.slice e)) (hu : P.underlying u = some .string) (hinfo : (P.info? e).map (fun i => (i.zero, i.size, i.bytes)) = some (some (.int .u8 0), 1, 1))
    (v : Value) (n : Nat) (vs : List Value) (hown : Sl w e 1 v n vs) (s : ByteArray) (h63 : n + s.size ≤ maxLen) (hbytes : n + s.size ≤ 140737488355328) :
    ∃ v' w', (Builtin.append_ #[t, u] ty #[v, .string s]).run P w = .ok v' w' ∧ Sl w' e 1 v' (n + s.size) (vs ++ bs s.data.toList) ∧ Keep (blks v) w w' ∧ (blks v' = blks v ∨ ∀ b ∈ blks v', w.heap.size ≤ b) := by
  obtain ⟨i, hi, hzz, hsi, hby⟩ := info_parts hinfo
  have hxl : vs.length = n := by simpa using hown.1
  have hlen : (vs ++ bs s.data.toList).length = (n + s.size) * 1 := by rw [List.length_append, hxl, str_len, Nat.mul_one]
  have h63' : ((n + s.size : Nat) : Int) ≤ 9223372036854775807 := by simp only [maxLen] at h63; omega
  have grown : ∀ old, old < n + s.size → Sl (w.drew.alloc (.cells (vs.toArray ++ (Lib.strCells s).toArray ++ Builtin.zeroCells (Value.int .u8 0).cells (grownCap w (n + s.size) old e - (n + s.size))) e)) e 1
      (.slice (some ⟨w.heap.size, 0, none⟩) (n + s.size) (grownCap w (n + s.size) old e)) (n + s.size) (vs ++ bs s.data.toList) := by
    intro old _
    have hge := grownCap_ge w (n + s.size) old e
    have hcm : grownCap w (n + s.size) old e ≤ maxLen := grownCap_le_maxLen w (n + s.size) old e h63
    refine ⟨hlen, Or.inr ⟨w.heap.size, _, [], (Builtin.zeroCells (Value.int .u8 0).cells (grownCap w (n + s.size) old e - (n + s.size))).toList, rfl, ?_, hge, ?_, hcm⟩⟩
    · have := Blk.new w.drew (vs.toArray ++ (Lib.strCells s).toArray ++ Builtin.zeroCells (Value.int .u8 0).cells (grownCap w (n + s.size) old e - (n + s.size))) e
      have e1 : ([] ++ ((vs ++ bs s.data.toList) ++ (Builtin.zeroCells (Value.int .u8 0).cells (grownCap w (n + s.size) old e - (n + s.size))).toList)).toArray = vs.toArray ++ (Lib.strCells s).toArray ++ Builtin.zeroCells (Value.int .u8 0).cells (grownCap w (n + s.size) old e - (n + s.size)) := by
        apply Array.ext'; simp [str_cells]
      rw [e1]; exact this
    · have hz1 : (Value.int IntKind.u8 0).cells.size = 1 := rfl
      rw [hlen, Array.length_toList, size_zeroCells, hz1]; omega
  rcases hown.2 with ⟨rfl, rfl⟩ | ⟨g, cap, pre, post, rfl, hb, r1, r2, r3⟩
  · obtain rfl : vs = [] := List.eq_nil_of_length_eq_zero hxl
    by_cases hm : s.size = 0
    · have hn : bs s.data.toList = [] := List.eq_nil_of_length_eq_zero (by rw [str_len]; exact hm)
      refine ⟨.slice none 0 0, w, ?_, by rw [hm, hn]; exact Sl.nil w e 1, Keep.refl _ _, Or.inl rfl⟩
      have hf := Lib.run_firstCells_string (P := P) w 1 s
      rw [hm] at hf
      simp [Builtin.append_, run_underlying ht, run_underlying hu, sizeOf, typeInfo, hi, hsi, Builtin.lenOf, hm, hf]
    · have hr := run_append_nil_string (P := P) w t u ty e i (.int .u8 0) ht hu hi hzz s (by omega) (by simpa using h63') (by rw [hby]; omega)
      have hgr := grown 0 (by omega)
      have ee : (Lib.strCells s).toArray = s.data.map (fun b => Value.int .u8 b.toNat) := by apply Array.ext'; simp [Lib.strCells]
      rw [ee] at hgr
      simp only [Nat.zero_add, List.nil_append, Array.empty_append] at hgr ⊢
      exact ⟨_, _, hr, hgr, ((Keep.refl _ _).drew).alloc _, Or.inr (by simp [blks, Value.ownBlock])⟩
  · by_cases hroom : n + s.size ≤ cap
    · have hcur : (pre ++ (vs ++ post)).toArray.size = pre.length + (vs.length + post.length) := by simp
      have hfit : pre.length + n + s.size ≤ (pre ++ (vs ++ post)).toArray.size := by rw [hcur]; omega
      have hr := run_append_at_str (P := P) w t u ty e i ht hu hi hsi g pre.length n cap (pre ++ (vs ++ post)).toArray hb s hroom hfit
      refine ⟨_, _, hr, ⟨hlen, Or.inr ⟨g, cap, pre, post.drop s.size, rfl, ?_, hroom, ?_, r3⟩⟩, ⟨rfl, rfl, rfl, by simp, fun k _ hk => setRow_other w g k _ (fun e => hk (by simp [blks, Value.ownBlock, e]))⟩, Or.inl rfl⟩
      · have := setRow_heap w g _ ((pre ++ (vs ++ post)).toArray.toList.take (pre.length + n) ++ bs s.data.toList ++ (pre ++ (vs ++ post)).toArray.toList.drop (pre.length + n + s.size)).toArray e _ hb
        have e1 : (pre ++ (vs ++ post)).toArray.toList.take (pre.length + n) ++ bs s.data.toList ++ (pre ++ (vs ++ post)).toArray.toList.drop (pre.length + n + s.size) = pre ++ ((vs ++ bs s.data.toList) ++ post.drop s.size) := by
          rw [← hxl]
          simp only [List.toList_toArray]
          have e2 : pre.length + vs.length + s.size = (pre ++ vs).length + s.size := by simp
          rw [List.take_append, List.take_of_length_le (by omega), e2, ← List.append_assoc pre vs post, List.drop_append]
          simp
        rw [e1] at this ⊢
        exact this
      · rw [hlen, List.length_drop]; omega
    · have holds : ∀ j u, vs[j]? = some u → w.cell? ((⟨g, pre.length, none⟩ : Addr).add j) = some u := by
        rcases hown.rd with h | ⟨b, off, he, hr⟩
        · subst h; simp
        · cases he; exact Rd.add hr
      have hr := Lib.run_append_grow_string (P := P) w t u ty e i (.int .u8 0) ht hu hi hzz ⟨g, pre.length, none⟩ n cap vs (by rw [hsi, Nat.mul_one]; exact hxl) holds s (by omega) h63' (by rw [hby]; exact growslice_fits (by omega) (by omega))
      exact ⟨_, _, hr, grown cap (by omega), ((Keep.refl _ _).drew).alloc _, Or.inr (by simp [blks, Value.ownBlock])⟩
end
theorem wpList_appendT {P : Program} {w : World} {ops : Array Oper} {rest : List Oper} {o : Oper} {a : Act} {Q : Exit → Act → World → Prop} (hgd : o.guard = none) (s x : Operand) (t u : TypeId)
    (ho : o.op = .call { callee := .builtin .append, args := #[s, x], argTypes := #[t, u] }) (e : TypeId) (ht : P.underlying t = some (.slice e)) (hu : P.underlying u = some .string)
    (hinfo : (P.info? e).map (fun i => (i.zero, i.size, i.bytes)) = some (some (.int .u8 0), 1, 1))
    (v : Value) (n : Nat) (vs : List Value) (hs : a.eval s = v) (hown : Sl w e 1 v n vs) (str : ByteArray) (hx : a.eval x = .string str) (h63 : n + str.size ≤ maxLen) (hbytes : n + str.size ≤ 140737488355328)
    (h : ∀ a' c' w', Sl w' e 1 (.slice a' (n + str.size) c') (n + str.size) (vs ++ bs str.data.toList) → Keep (blks v) w w' → Fr w (blks v) (blks (.slice a' (n + str.size) c')) → wpList P ops Q rest (a.put o.dst (.slice a' (n + str.size) c')) w') : wpList P ops Q (o :: rest) a w := by
  obtain ⟨v', w', hr, h2, h3, h4⟩ := run_appendT w t u o.type e ht hu hinfo v n vs hown str h63 hbytes
  obtain ⟨a', c', rfl, -, -, -, -, -⟩ := h2.form
  refine wpList_plain hgd fun K hK => ?_
  unfold Oper.wp execOp
  simp only [ho, resolve, invoke, builtin, Sem.run_bind, Sem.run_pure, Result.andThen_ok, List.map_toArray, List.map_cons, List.map_nil, hs, hx, hr]
  refine hK _ _ (h a' c' w' h2 h3 (fun b hb => ?_))
  rcases h4 with e | e
  · rw [e] at hb; exact Or.inl hb
  · exact Or.inr (e b hb)
end Go.Proofs.YtgeihjpifbkpkaaDoor

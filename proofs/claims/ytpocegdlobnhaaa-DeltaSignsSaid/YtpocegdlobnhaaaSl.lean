/- A slice that lies anywhere in a block of the call's own, elements of any width; append onto it; its tail. No program in sight. -/
import Derived.Test.YtpocegdlobnhaaaLib
set_option linter.unusedVariables false
set_option linter.unusedSimpArgs false
namespace Go.Proofs.Ytpocegdlobnhaaa
open Go.RowKit

/-- The blocks that a slice's value names. -/
def blks (v : Value) : List Nat := v.ownBlock.toList

/-- v is a slice of n elements of sz cells each, which hold vs; its block is there whole, and may be written. -/
def Sl (w : World) (e : TypeId) (sz : Nat) (v : Value) (n : Nat) (vs : List Value) : Prop :=
  vs.length = n * sz ∧ ((v = .slice none 0 0 ∧ n = 0) ∨
  ∃ g cap pre post, v = .slice (some ⟨g, pre.length, none⟩) n cap ∧ Blk w g (pre ++ (vs ++ post)).toArray e ∧ n ≤ cap ∧ cap * sz ≤ vs.length + post.length ∧ cap ≤ maxLen)

section
variable {w w' : World} {e : TypeId} {sz : Nat} {v : Value} {n : Nat} {vs : List Value} {S : List Nat}
theorem Sl.keep (h : Sl w e sz v n vs) (k : Keep S w w') (hS : ∀ b ∈ blks v, b ∉ S) : Sl w' e sz v n vs := by
  refine ⟨h.1, ?_⟩
  rcases h.2 with h2 | ⟨g, cap, pre, post, rfl, hb, r⟩
  · exact Or.inl h2
  · exact Or.inr ⟨g, cap, pre, post, rfl, hb.keep k (hS g (by simp [blks, Value.ownBlock])), r⟩
theorem Sl.lt (h : Sl w e sz v n vs) : ∀ b ∈ blks v, b < w.heap.size := by
  intro b hb
  rcases h.2 with ⟨rfl, _⟩ | ⟨g, cap, pre, post, rfl, hg, r⟩
  · simp [blks, Value.ownBlock] at hb
  · simp [blks, Value.ownBlock] at hb; subst hb; exact hg.lt
theorem Sl.rd (h : Sl w e sz v n vs) : Rd w (sAddr v) vs := by
  rcases h.2 with ⟨rfl, h2⟩ | ⟨g, cap, pre, post, rfl, hg, r⟩
  · exact Or.inl (List.eq_nil_of_length_eq_zero (by rw [h.1, h2]; simp))
  · refine Or.inr ⟨g, pre.length, rfl, fun k u hu => hg.cell ?_⟩
    simp only [List.getElem?_toArray]
    rw [List.getElem?_append_right (by omega), Nat.add_sub_cancel_left]
    exact (List.getElem?_append_left (List.getElem?_eq_some_iff.1 hu).1).trans hu
theorem Sl.form (h : Sl w e sz v n vs) : ∃ a cap, v = .slice a n cap ∧ sAddr v = a ∧ Rd w a vs ∧ n ≤ cap ∧ cap ≤ maxLen ∧ (a = none → cap = 0) := by
  have hr := h.rd
  rcases h.2 with ⟨rfl, rfl⟩ | ⟨g, cap, pre, post, rfl, hg, r1, r2, r3⟩
  · exact ⟨none, 0, rfl, rfl, hr, Nat.le_refl _, by simp [maxLen], fun _ => rfl⟩
  · exact ⟨some ⟨g, pre.length, none⟩, cap, rfl, rfl, hr, r1, r3, fun h => by cases h⟩
theorem Sl.nil (w : World) (e : TypeId) (sz : Nat) : Sl w e sz (.slice none 0 0) 0 [] := ⟨by simp, Or.inl ⟨rfl, rfl⟩⟩
/-- A row that has just been made. -/
theorem Sl.made (w : World) (e : TypeId) (sz : Nat) (c : Array Value) (n b : Nat) (hb : b = w.heap.size) (hn : c.size = n * sz) (hm : n ≤ maxLen) : Sl (w.alloc (.cells c e)) e sz (.slice (some ⟨b, 0, none⟩) n n) n c.toList := by
  subst hb
  exact ⟨by simpa using hn, Or.inr ⟨w.heap.size, n, [], [], rfl, by simpa using Blk.new w c e, Nat.le_refl _, by simp; omega, hm⟩⟩
theorem Sl.of_owns {base : Nat} (h : w.ownsRow base e 1 v n vs) : Sl w e 1 v n vs := by
  have hl := owns_len h
  refine ⟨by simpa using h.1, ?_⟩
  rcases owns_cases h with ⟨h1, h2⟩ | ⟨g, cap, cur, h1, hg, hb, hc, hm⟩
  · exact Or.inl ⟨h1, by rw [← hl, h2]; rfl⟩
  · exact Or.inr ⟨g, cap, [], cur, by rw [h1, hl]; rfl, by simpa using hb, by omega, by omega, hm⟩
/-- 's[k:]' -/
theorem Sl.drop {g off n cap : Nat} (h : Sl w e sz (.slice (some ⟨g, off, none⟩) n cap) n vs) (k : Nat) (hk : k ≤ n) :
    Sl w e sz (.slice (if cap = k then some ⟨g, off, none⟩ else some ⟨g, off + k * sz, none⟩) (n - k) (cap - k)) (n - k) (vs.drop (k * sz)) := by
  rcases h.2 with ⟨h1, _⟩ | ⟨g', cap', pre, post, h1, hb, r1, r2, r3⟩
  · cases h1
  · simp only [Value.slice.injEq, Option.some.injEq, Addr.mk.injEq, and_true] at h1
    obtain ⟨⟨rfl, rfl⟩, _, rfl⟩ := h1
    have hl := h.1
    refine ⟨by rw [List.length_drop, hl, Nat.sub_mul], Or.inr ?_⟩
    by_cases hc : cap = k
    · have hn : n = k := by omega
      subst hc; subst hn
      refine ⟨g, 0, pre, vs ++ post, ?_, ?_, ?_, ?_, ?_⟩
      · simp
      · rw [List.drop_eq_nil_of_le (by omega)]; simpa using hb
      · omega
      · omega
      · simp [maxLen]
    · rw [if_neg hc]
      have hkl : k * sz ≤ vs.length := by rw [hl]; exact Nat.mul_le_mul_right _ hk
      refine ⟨g, cap - k, pre ++ vs.take (k * sz), post, ?_, ?_, ?_, ?_, ?_⟩
      · simp only [List.length_append, List.length_take, Nat.min_eq_left hkl]
      · have e1 : pre ++ vs.take (k * sz) ++ (vs.drop (k * sz) ++ post) = pre ++ (vs ++ post) := by
          rw [List.append_assoc, ← List.append_assoc (vs.take (k * sz)), List.take_append_drop]
        rw [e1]; exact hb
      · omega
      · rw [List.length_drop, Nat.sub_mul]; omega
      · omega
end

section
variable {P : Program} (w : World)

theorem run_append_at_room (t ty e : TypeId) (i : TypeInfo) (ht : P.underlying t = some (.slice e)) (hi : P.info? e = some i)
    (g off sLen sCap : Nat) (cur : Array Value) (hg : w.heap[g]? = some (.cells cur e (0, 0)))
    (a : Addr) (m c : Nat) (news : List Value) (hl : news.length = m * i.size) (hnews : ∀ j u, news[j]? = some u → w.cell? (a.add j) = some u) (h1 : ∀ u ∈ news, u.oneCell' = true)
    (hroom : sLen + m ≤ sCap) (hfit : off + sLen * i.size + news.length ≤ cur.size) :
    (Builtin.append_ #[t, t] ty #[.slice (some ⟨g, off, none⟩) sLen sCap, .slice (some a) m c]).run P w =
      .ok (.slice (some ⟨g, off, none⟩) (sLen + m) sCap) (w.setRow g (cur.toList.take (off + sLen * i.size) ++ news ++ cur.toList.drop (off + sLen * i.size + news.length)).toArray) := by
  have hf := run_firstCells_some (P := P) w i.size m a m c news hl hnews
  have hst := run_storeCells_at P g (off + sLen * i.size) e news 0 cur w hg (by simpa using hfit) h1
  simp only [Nat.add_zero] at hst
  simp [Builtin.append_, run_underlying ht, sizeOf, typeInfo, hi, Builtin.lenOf, hroom, hf, Addr.add_lit, hst]

theorem run_append_at_none (t ty e : TypeId) (i : TypeInfo) (ht : P.underlying t = some (.slice e)) (hi : P.info? e = some i) (b : Addr) (sLen sCap : Nat) (h : sLen ≤ sCap) :
    (Builtin.append_ #[t, t] ty #[.slice (some b) sLen sCap, .slice none 0 0]).run P w = .ok (.slice (some b) sLen sCap) w := by
  simp [Builtin.append_, run_underlying ht, sizeOf, typeInfo, hi, Builtin.lenOf, h, Builtin.firstCells, storeCells]
theorem run_append_nil_none (t ty e : TypeId) (i : TypeInfo) (ht : P.underlying t = some (.slice e)) (hi : P.info? e = some i) :
    (Builtin.append_ #[t, t] ty #[.slice none 0 0, .slice none 0 0]).run P w = .ok (.slice none 0 0) w := by
  simp [Builtin.append_, run_underlying ht, sizeOf, typeInfo, hi, Builtin.lenOf, Builtin.firstCells]

theorem run_appendS (t ty e : TypeId) (z : Value) (sz bytes : Nat) (ht : P.underlying t = some (.slice e)) (hinfo : (P.info? e).map (fun i => (i.zero, i.size, i.bytes)) = some (some z, sz, bytes)) (hz : z.cells.size = sz) (hsz : 0 < sz)
    (v : Value) (n : Nat) (vs : List Value) (hown : Sl w e sz v n vs) (sp : Option Addr) (m c : Nat) (news : List Value) (hl : news.length = m * sz) (hc : sp = none → c = 0) (hrd : Rd w sp news) (h1 : ∀ u ∈ news, u.oneCell' = true)
    (h63 : n + m ≤ maxLen) (hbytes : (n + m) * bytes ≤ 140737488355328) :
    ∃ v' w', (Builtin.append_ #[t, t] ty #[v, .slice sp m c]).run P w = .ok v' w' ∧ Sl w' e sz v' (n + m) (vs ++ news) ∧ Keep (blks v) w w' ∧ (blks v' = blks v ∨ ∀ b ∈ blks v', w.heap.size ≤ b) := by
  obtain ⟨i, hi, hzz, hsi, hby⟩ := info_parts hinfo
  subst hsi; subst hby
  have hlen : (vs ++ news).length = (n + m) * i.size := by rw [List.length_append, hown.1, hl, Nat.add_mul]
  have h63' : ((n + m : Nat) : Int) ≤ 9223372036854775807 := by simp only [maxLen] at h63; omega
  -- a new block
  have grown : ∀ old, old < n + m → Sl (w.drew.alloc (.cells (vs.toArray ++ news.toArray ++ Builtin.zeroCells z.cells (grownCap w (n + m) old e - (n + m))) e)) e i.size
      (.slice (some ⟨w.heap.size, 0, none⟩) (n + m) (grownCap w (n + m) old e)) (n + m) (vs ++ news) := by
    intro old _
    have hge := grownCap_ge w (n + m) old e
    have hcm : grownCap w (n + m) old e ≤ maxLen := grownCap_le_maxLen w (n + m) old e h63
    refine ⟨hlen, Or.inr ⟨w.heap.size, _, [], (Builtin.zeroCells z.cells (grownCap w (n + m) old e - (n + m))).toList, rfl, ?_, hge, ?_, hcm⟩⟩
    · have := Blk.new w.drew (vs.toArray ++ news.toArray ++ Builtin.zeroCells z.cells (grownCap w (n + m) old e - (n + m))) e
      have e1 : ([] ++ ((vs ++ news) ++ (Builtin.zeroCells z.cells (grownCap w (n + m) old e - (n + m))).toList)).toArray = vs.toArray ++ news.toArray ++ Builtin.zeroCells z.cells (grownCap w (n + m) old e - (n + m)) := by
        apply Array.ext'; simp
      rw [e1]; exact this
    · rw [hlen, Array.length_toList, size_zeroCells, hz, ← Nat.add_mul]
      exact Nat.mul_le_mul_right _ (by omega)
  cases sp with
  | none =>
    obtain rfl : news = [] := by rcases hrd with h | ⟨_, _, h, _⟩; exact h; cases h
    have hm0 : m = 0 := by
      simp only [List.length_nil] at hl
      rcases Nat.mul_eq_zero.1 hl.symm with h | h
      · exact h
      · omega
    subst hm0
    rw [hc rfl]
    refine ⟨v, w, ?_, by simpa using hown, Keep.refl _ _, Or.inl rfl⟩
    rcases hown.2 with ⟨rfl, _⟩ | ⟨g, cap, pre, post, rfl, hb, r1, r2, r3⟩
    · exact run_append_nil_none w t ty e i ht hi
    · exact run_append_at_none w t ty e i ht hi _ _ _ r1
  | some ad =>
    have hnews : ∀ j u, news[j]? = some u → w.cell? (ad.add j) = some u := by
      rcases hrd with rfl | ⟨b, off, he, hr⟩
      · simp
      · cases he; exact Rd.add hr
    rcases hown.2 with ⟨rfl, rfl⟩ | ⟨g, cap, pre, post, rfl, hb, r1, r2, r3⟩
    · obtain rfl : vs = [] := List.eq_nil_of_length_eq_zero (by simpa using hown.1)
      by_cases hm0 : m = 0
      · subst hm0
        obtain rfl : news = [] := List.eq_nil_of_length_eq_zero (by simpa using hl)
        refine ⟨.slice none 0 0, w, ?_, Sl.nil w e i.size, Keep.refl _ _, Or.inl rfl⟩
        simp [Builtin.append_, run_underlying ht, sizeOf, typeInfo, hi, Builtin.lenOf, Builtin.firstCells, loadCells, loadCellsFrom]
      · have hr := run_append_nil (P := P) w t ty e i z ht hi hzz ad m c news hl hnews (by omega) (by omega) (by have hb := hbytes; simp only [Nat.zero_add] at hb; omega)
        have hgr := grown 0 (by omega)
        simp only [Nat.zero_add, List.nil_append, Array.empty_append] at hgr ⊢
        refine ⟨_, _, hr, hgr, ((Keep.refl _ _).drew).alloc _, Or.inr (by simp [blks, Value.ownBlock])⟩
    · by_cases hroom : n + m ≤ cap
      · have hv := hown.1
        have hcur : (pre ++ (vs ++ post)).toArray.size = pre.length + (vs.length + post.length) := by simp
        have hmul : (n + m) * i.size ≤ cap * i.size := Nat.mul_le_mul_right _ hroom
        have hfit : pre.length + n * i.size + news.length ≤ (pre ++ (vs ++ post)).toArray.size := by rw [hcur, hl]; rw [Nat.add_mul] at hmul; omega
        have hr := run_append_at_room (P := P) w t ty e i ht hi g pre.length n cap (pre ++ (vs ++ post)).toArray hb ad m c news hl hnews h1 hroom hfit
        refine ⟨_, _, hr, ⟨hlen, Or.inr ⟨g, cap, pre, post.drop news.length, rfl, ?_, hroom, ?_, r3⟩⟩, ⟨rfl, rfl, rfl, by simp, fun k _ hk => setRow_other w g k _ (fun e => hk (by simp [blks, Value.ownBlock, e]))⟩, Or.inl rfl⟩
        · have := setRow_heap w g _ ((pre ++ (vs ++ post)).toArray.toList.take (pre.length + n * i.size) ++ news ++ (pre ++ (vs ++ post)).toArray.toList.drop (pre.length + n * i.size + news.length)).toArray e _ hb
          have e1 : (pre ++ (vs ++ post)).toArray.toList.take (pre.length + n * i.size) ++ news ++ (pre ++ (vs ++ post)).toArray.toList.drop (pre.length + n * i.size + news.length) = pre ++ ((vs ++ news) ++ post.drop news.length) := by
            rw [← hv]
            simp only [List.toList_toArray]
            have e2 : pre.length + vs.length + news.length = (pre ++ vs).length + news.length := by simp
            rw [List.take_append, List.take_of_length_le (by omega), e2, ← List.append_assoc pre vs post, List.drop_append]
            simp
          rw [e1] at this ⊢
          exact this
        · rw [hlen, List.length_drop]
          rw [hl, Nat.add_mul]
          omega
      · have holds : ∀ j u, vs[j]? = some u → w.cell? ((⟨g, pre.length, none⟩ : Addr).add j) = some u := by
          rcases hown.rd with h | ⟨b, off, he, hr⟩
          · subst h; simp
          · cases he; exact Rd.add hr
        have hr := run_append_grow (P := P) w t ty e i z ht hi hzz ⟨g, pre.length, none⟩ n cap vs hown.1 holds ad m c news hl hnews (by omega) h63' (growslice_fits (by omega) hbytes)
        exact ⟨_, _, hr, grown cap (by omega), ((Keep.refl _ _).drew).alloc _, Or.inr (by simp [blks, Value.ownBlock])⟩

theorem wpList_appendS {w : World} {ops : Array Oper} {rest : List Oper} {o : Oper} {a : Act} {Q : Exit → Act → World → Prop} (hgd : o.guard = none) (s x : Operand) (t : TypeId)
    (ho : o.op = .call { callee := .builtin .append, args := #[s, x], argTypes := #[t, t] })
    (e : TypeId) (z : Value) (sz bytes : Nat) (ht : P.underlying t = some (.slice e)) (hinfo : (P.info? e).map (fun i => (i.zero, i.size, i.bytes)) = some (some z, sz, bytes)) (hz : z.cells.size = sz) (hsz : 0 < sz)
    (v : Value) (n : Nat) (vs : List Value) (hs : a.eval s = v) (hown : Sl w e sz v n vs)
    (sp : Option Addr) (m c : Nat) (news : List Value) (hx : a.eval x = .slice sp m c) (hl : news.length = m * sz) (hc : sp = none → c = 0) (hrd : Rd w sp news) (h1 : ∀ u ∈ news, u.oneCell' = true)
    (h63 : n + m ≤ maxLen) (hbytes : (n + m) * bytes ≤ 140737488355328)
    (h : ∀ v' w', Sl w' e sz v' (n + m) (vs ++ news) → Keep (blks v) w w' → (blks v' = blks v ∨ ∀ b ∈ blks v', w.heap.size ≤ b) → wpList P ops Q rest (a.put o.dst v') w') : wpList P ops Q (o :: rest) a w := by
  obtain ⟨v', w', hr, h2, h3, h4⟩ := run_appendS (P := P) w t o.type e z sz bytes ht hinfo hz hsz v n vs hown sp m c news hl hc hrd h1 h63 hbytes
  refine wpList_plain hgd fun K hK => ?_
  unfold Oper.wp execOp
  simp only [ho, resolve, invoke, builtin, Sem.run_bind, Sem.run_pure, Result.andThen_ok, List.map_toArray, List.map_cons, List.map_nil, hs, hx, hr]
  exact hK _ _ (h v' w' h2 h3 h4)

/-- The same as one step of a region that draws its order. -/
theorem step_appendS {w : World} {ops : Array Oper} {o : Oper} {a : Act} {K : Act → World → Prop} {Q : Exit → Act → World → Prop} {E : Prop} (hgd : o.guard = none) (s x : Operand) (t : TypeId)
    (ho : o.op = .call { callee := .builtin .append, args := #[s, x], argTypes := #[t, t] })
    (e : TypeId) (z : Value) (sz bytes : Nat) (ht : P.underlying t = some (.slice e)) (hinfo : (P.info? e).map (fun i => (i.zero, i.size, i.bytes)) = some (some z, sz, bytes)) (hz : z.cells.size = sz) (hsz : 0 < sz)
    (v : Value) (n : Nat) (vs : List Value) (hs : a.eval s = v) (hown : Sl w e sz v n vs)
    (sp : Option Addr) (m c : Nat) (news : List Value) (hx : a.eval x = .slice sp m c) (hl : news.length = m * sz) (hc : sp = none → c = 0) (hrd : Rd w sp news) (h1 : ∀ u ∈ news, u.oneCell' = true)
    (h63 : n + m ≤ maxLen) (hbytes : (n + m) * bytes ≤ 140737488355328)
    (h : ∀ v' w', Sl w' e sz v' (n + m) (vs ++ news) → Keep (blks v) w w' → (blks v' = blks v ∨ ∀ b ∈ blks v', w.heap.size ≤ b) → K (a.put o.dst v') w') :
    if Region.wanted o (yielded ops a.tmps) = true then Oper.wp P o a w K Q else E := by
  have hw : Region.wanted o (yielded ops a.tmps) = true := by simp [Region.wanted, hgd]
  rw [if_pos hw]
  obtain ⟨v', w', hr, h2, h3, h4⟩ := run_appendS (P := P) w t o.type e z sz bytes ht hinfo hz hsz v n vs hown sp m c news hl hc hrd h1 h63 hbytes
  unfold Oper.wp execOp
  simp only [ho, resolve, invoke, builtin, Sem.run_bind, Sem.run_pure, Result.andThen_ok, List.map_toArray, List.map_cons, List.map_nil, hs, hx, hr]
  exact h v' w' h2 h3 h4
end
end Go.Proofs.Ytpocegdlobnhaaa

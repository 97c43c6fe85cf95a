/- Append of one new element, and of a row, onto a slice of the call's own: what the walk goes on with. No program in sight. -/
import Derived.Test.YtpocegdlobnhaaaSl
set_option linter.unusedVariables false
set_option linter.unusedSimpArgs false
namespace Go.Proofs.Ytpocegdlobnhaaa
open Go.RowKit

/-- The blocks of S' are blocks of S or new. -/
def Fr (w : World) (S S' : List Nat) : Prop := ∀ b ∈ S', b ∈ S ∨ w.heap.size ≤ b
theorem Fr.trans {w w' : World} {S S' S'' : List Nat} (h : Fr w S S') (h' : Fr w' S' S'') (hs : w.heap.size ≤ w'.heap.size) : Fr w S S'' := fun b hb => by
  rcases h' b hb with h1 | h1
  · exact h b h1
  · exact Or.inr (by omega)
theorem Fr.refl (w : World) (S : List Nat) : Fr w S S := fun b hb => Or.inl hb
theorem Fr.le {w w' : World} {S S' : List Nat} (h : Fr w' S S') (hs : w.heap.size ≤ w'.heap.size) : Fr w S S' := fun b hb => by
  rcases h b hb with h1 | h1
  · exact Or.inl h1
  · exact Or.inr (by omega)
theorem Keep.ofFr {w w' w'' : World} {S S' : List Nat} (h : Keep S w w') (k : Keep S' w' w'') (hf : Fr w S S') : Keep S w w'' := h.trans k hf
theorem Fr.new {w w' : World} {S : List Nat} (h : ∀ b ∈ S, w.heap.size ≤ b) : Fr w [] S := fun b hb => Or.inr (h b hb)
theorem Fr.out {w : World} {S : List Nat} (h : Fr w [] S) : ∀ b ∈ S, w.heap.size ≤ b := fun b hb => by rcases h b hb with h1 | h1; cases h1; exact h1
theorem Fr.mono {w : World} {S S' T : List Nat} (h : Fr w S S') (hT : ∀ b ∈ S, b ∈ T ∨ w.heap.size ≤ b) : Fr w T S' := fun b hb => by
  rcases h b hb with h1 | h1
  · exact hT b h1
  · exact Or.inr h1

theorem Sl.ablk {w : World} {e : TypeId} {sz : Nat} {a : Option Addr} {n c m : Nat} {vs : List Value} (h : Sl w e sz (.slice a n c) m vs) (hv : vs ≠ []) : ablk a ∈ blks (.slice a n c) := by
  rcases h.2 with ⟨h1, h2⟩ | ⟨g, cap, pre, post, h1, _⟩
  · exact absurd (List.eq_nil_of_length_eq_zero (by rw [h.1, h2]; simp)) hv
  · cases h1; simp [Go.Proofs.Ytpocegdlobnhaaa.ablk, blks, Value.ownBlock]
theorem Sl.parts {w : World} {e : TypeId} {sz : Nat} {a : Option Addr} {n c m : Nat} {vs : List Value} (h : Sl w e sz (.slice a n c) m vs) : (a = none ∧ c = 0) ∨ ∃ g off, a = some ⟨g, off, none⟩ := by
  rcases h.2 with ⟨h1, h2⟩ | ⟨g, cap, pre, post, h1, _⟩
  · cases h1; exact Or.inl ⟨rfl, rfl⟩
  · cases h1; exact Or.inr ⟨g, _, rfl⟩
/-- A part of a row. -/
theorem Rd.part {w : World} {g off : Nat} {xs : List UInt8} (h : Rd w (some ⟨g, off, none⟩) (bs xs)) (A n : Nat) : Rd w (some ⟨g, off + A, none⟩) (bs ((xs.drop A).take n)) := by
  rcases h with h | ⟨b, o, e, h⟩
  · have : xs = [] := by simpa [bs] using h
    subst this; exact Or.inl (by simp)
  · cases e
    refine Or.inr ⟨g, off + A, rfl, fun k v hv => ?_⟩
    rw [Nat.add_assoc]
    refine h (A + k) v ?_
    rw [bs, List.getElem?_map, List.getElem?_take] at hv
    split at hv
    · rw [List.getElem?_drop] at hv; rw [bs, List.getElem?_map]; exact hv
    · simp at hv
/-- What a slice of the call's own is, read by another. -/
theorem Sl.use {w : World} {e : TypeId} {sz : Nat} {a : Option Addr} {n c m : Nat} {vs : List Value} (h : Sl w e sz (.slice a n c) m vs) : n = m ∧ (a = none → c = 0) ∧ Rd w a vs ∧ n ≤ c ∧ c ≤ maxLen := by
  obtain ⟨_, _, e1, e2, e3, e4, e5, e6⟩ := h.form
  cases e1; exact ⟨rfl, e6, by rw [← e2]; exact e3, e4, e5⟩

section
variable {P : Program} {w : World} {ops : Array Oper} {rest : List Oper} {o : Oper} {a : Act} {Q : Exit → Act → World → Prop}
theorem wpList_appendN (hgd : o.guard = none) (s x : Operand) (t : TypeId)
    (ho : o.op = .call { callee := .builtin .append, args := #[s, x], argTypes := #[t, t] })
    (e : TypeId) (z : Value) (sz bytes : Nat) (ht : P.underlying t = some (.slice e)) (hinfo : (P.info? e).map (fun i => (i.zero, i.size, i.bytes)) = some (some z, sz, bytes)) (hz : z.cells.size = sz) (hsz : 0 < sz)
    (v : Value) (n : Nat) (vs : List Value) (hs : a.eval s = v) (hown : Sl w e sz v n vs)
    (sp : Option Addr) (m c : Nat) (news : List Value) (hx : a.eval x = .slice sp m c) (hl : news.length = m * sz) (hc : sp = none → c = 0) (hrd : Rd w sp news) (h1 : ∀ u ∈ news, u.oneCell' = true)
    (h63 : n + m ≤ maxLen) (hbytes : (n + m) * bytes ≤ 140737488355328)
    (h : ∀ a' c' w', Sl w' e sz (.slice a' (n + m) c') (n + m) (vs ++ news) → Keep (blks v) w w' → Fr w (blks v) (blks (.slice a' (n + m) c')) → wpList P ops Q rest (a.put o.dst (.slice a' (n + m) c')) w') : wpList P ops Q (o :: rest) a w := by
  refine wpList_appendS hgd s x t ho e z sz bytes ht hinfo hz hsz v n vs hs hown sp m c news hx hl hc hrd h1 h63 hbytes ?_
  intro v' w' h2 h3 h4
  obtain ⟨a', c', rfl, -, -, -, -, -⟩ := h2.form
  refine h a' c' w' h2 h3 (fun b hb => ?_)
  rcases h4 with e | e
  · rw [e] at hb; exact Or.inl hb
  · exact Or.inr (e b hb)

theorem one_int (k : IntKind) (y : Int) : ∀ u ∈ [Value.int k y], u.oneCell' = true := by simp [Value.oneCell']
/-- 'append(s, y)': the new element lies in a block that has just been made. -/
theorem wpList_append1 (w0 : World) (hgd : o.guard = none) (s x : Operand) (t : TypeId)
    (ho : o.op = .call { callee := .builtin .append, args := #[s, x], argTypes := #[t, t] })
    (e : TypeId) (z : Value) (bytes : Nat) (ht : P.underlying t = some (.slice e)) (hinfo : (P.info? e).map (fun i => (i.zero, i.size, i.bytes)) = some (some z, 1, bytes)) (hz : z.cells.size = 1)
    (y : Value) (hy : y.oneCell' = true) (v : Value) (n : Nat) (vs : List Value) (hs : a.eval s = v) (hown : Sl w0 e 1 v n vs) (hx : a.eval x = .slice (some ⟨w0.heap.size, 0, none⟩) 1 1)
    (h63 : n + 1 ≤ maxLen) (hbytes : (n + 1) * bytes ≤ 140737488355328)
    (h : ∀ a' c' w', Sl w' e 1 (.slice a' (n + 1) c') (n + 1) (vs ++ [y]) → Keep (blks v) w0 w' → Fr w0 (blks v) (blks (.slice a' (n + 1) c')) → wpList P ops Q rest (a.put o.dst (.slice a' (n + 1) c')) w') :
    wpList P ops Q (o :: rest) a (w0.alloc (.cells #[y] e)) := by
  refine wpList_appendN hgd s x t ho e z 1 bytes ht hinfo hz (by omega) v n vs hs (hown.keep ((Keep.refl [] w0).alloc _) (by simp)) (some ⟨w0.heap.size, 0, none⟩) 1 1 [y] hx rfl (by simp) (Rd.made w0 _ e (0, 0) _ _ rfl rfl) (by simpa using hy) h63 hbytes ?_
  intro a' c' w' h2 h3 h4
  exact h a' c' w' h2 (((Keep.refl (blks v) w0).alloc _).trans h3 (fun b hb => Or.inl hb)) (h4.le (by simp))
end
end Go.Proofs.Ytpocegdlobnhaaa

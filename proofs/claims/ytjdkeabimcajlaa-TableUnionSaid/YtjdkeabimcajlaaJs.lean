/- Join: what lies while the two are gone through. -/
import Derived.Test.YtjdkeabimcajlaaJp
set_option linter.unusedVariables false
set_option linter.unusedSimpArgs false
namespace Go.Proofs.Ytjdkeabimcajlaa
open Go.RowKit

theorem info37 : (Try.prog.info? 37).map (fun i => (i.zero, i.size, i.bytes)) = some (some (.agg (Array.replicate 32 (B8 0))), 32, 32) := by kernel_rfl
theorem zero37 : (Value.agg (Array.replicate 32 (B8 0))).cells.size = 32 := rfl
theorem under45 : Try.prog.underlying 45 = some (.slice 37) := by kernel_rfl

/-- The two that are laid out, while the two tables are gone through: out (of results), clash (of ids). -/
structure JS (w : World) (O : List Res) (K : List (List UInt8)) (vo vk : Value) (nO nK : Nat) (W : World) : Prop where
  hO : O.length = nO
  hK : K.length = nK
  so : Sl W 39 65 vo nO (cellsOf O)
  sk : Sl W 37 32 vk nK (idCells K)
  fo : Fr w [] (blks vo)
  fk : Fr w [] (blks vk)
  dj : ∀ b ∈ blks vo, b ∉ blks vk
  k : Keep [] w W
theorem JS.keep {w W W' : World} {O : List Res} {K : List (List UInt8)} {vo vk : Value} {nO nK : Nat} {S : List Nat} (h : JS w O K vo vk nO nK W) (k : Keep S W W') (ho : ∀ b ∈ blks vo, b ∉ S) (hk : ∀ b ∈ blks vk, b ∉ S) (hS : ∀ b ∈ S, w.heap.size ≤ b) : JS w O K vo vk nO nK W' :=
  ⟨h.hO, h.hK, h.so.keep k ho, h.sk.keep k hk, h.fo, h.fk, h.dj, h.k.trans k (fun b hb => Or.inr (hS b hb))⟩
theorem JS.keep0 {w W W' : World} {O : List Res} {K : List (List UInt8)} {vo vk : Value} {nO nK : Nat} (h : JS w O K vo vk nO nK W) (k : Keep [] W W') : JS w O K vo vk nO nK W' := h.keep k (by simp) (by simp) (by simp)
theorem fr_old {w : World} {S : List Nat} (f : Fr w [] S) : ∀ b ∈ S, w.heap.size ≤ b := fun b hb => by
  rcases f b hb with h | h
  · cases h
  · exact h
/-- One result more. -/
theorem JS.out {w WA W6 : World} {O : List Res} {K : List (List UInt8)} {vo vk vo' : Value} {nO nK : Nat} {Z : List Res} {nZ : Nat} (h : JS w O K vo vk nO nK WA) (hz : Z.length = nZ) (hs : Sl W6 39 65 vo' (nO + nZ) (cellsOf O ++ cellsOf Z)) (hk : Keep (blks vo) WA W6) (hf : Fr WA (blks vo) (blks vo')) : JS w (O ++ Z) K vo' vk (nO + nZ) nK W6 := by
  refine ⟨by simp [h.hO, hz], h.hK, by rw [cellsOf_append]; exact hs, h.sk.keep hk (fun b hb hb' => h.dj b hb' hb), h.fo.trans hf h.k.size, h.fk, fun b hb hb' => ?_, h.k.trans hk (fun b hb => Or.inr (fr_old h.fo b hb))⟩
  rcases hf b hb with h1 | h1
  · exact h.dj b h1 hb'
  · have := h.sk.lt b hb'; omega
theorem JS.clash {w WA W6 : World} {O : List Res} {K : List (List UInt8)} {vo vk vk' : Value} {nO nK : Nat} {i : List UInt8} (h : JS w O K vo vk nO nK WA) (hs : Sl W6 37 32 vk' (nK + 1) (idCells K ++ bs i)) (hk : Keep (blks vk) WA W6) (hf : Fr WA (blks vk) (blks vk')) : JS w O (K ++ [i]) vo vk' nO (nK + 1) W6 := by
  refine ⟨h.hO, by simp [h.hK], h.so.keep hk (fun b hb hb' => h.dj b hb hb'), by rw [idCells_append, idCells_one]; exact hs, h.fo, h.fk.trans hf h.k.size, fun b hb hb' => ?_, h.k.trans hk (fun b hb => Or.inr (fr_old h.fk b hb))⟩
  rcases hf b hb' with h1 | h1
  · exact h.dj b hb h1
  · have := h.so.lt b hb; omega

/-- What holds whenever the two rests are looked at. -/
def JI (w : World) (how : Int) (l m : List Res) (v0 v1 vo vk : Value) (wr : World) : Prop :=
  ∃ (L M O : List Res) (K : List (List UInt8)) (a0 a1 ao ak : Option Addr) (n0 c0 n1 c1 nO co nK ck : Nat), v0 = .slice a0 n0 c0 ∧ v1 = .slice a1 n1 c1 ∧ vo = .slice ao nO co ∧ vk = .slice ak nK ck ∧ RsIn w a0 n0 c0 L ∧ RsIn w a1 n1 c1 M ∧ JS w O K (.slice ao nO co) (.slice ak nK ck) nO nK wr ∧
    O ++ joinO how L M = joinO how l m ∧ K ++ joinK L M = joinK l m ∧ nO + n0 + n1 ≤ 64 ∧ nK + n0 ≤ 32

section
variable {P : Program}
theorem step_build1 {ops : Array Oper} {o : Oper} {a : Act} {w : World} {K : Act → World → Prop} {Q : Exit → Act → World → Prop} {E : Prop} (hgd : o.guard = none) (t e : TypeId) (x : Operand) (ho : o.op = .buildSlice t 1 #[(0, x)])
    (cs : Array Value) (hx : a.eval x = .agg cs) (z : Value) (sz bytes : Nat) (hu : P.underlying t = some (.slice e)) (hinfo : (P.info? e).map (fun i => (i.zero, i.size, i.bytes)) = some (some z, sz, bytes)) (hsz : cs.size = sz) (h0 : 0 < sz) (h1 : sz ≤ 1000)
    (h : K (a.put o.dst (.slice (some ⟨w.heap.size, 0, none⟩) 1 1)) (w.alloc (.cells cs e))) : if Region.wanted o (yielded ops a.tmps) = true then Oper.wp P o a w K Q else E := by
  have hw : Region.wanted o (yielded ops a.tmps) = true := by simp [Region.wanted, hgd]
  rw [if_pos hw]
  obtain ⟨i, hi, hz, hs, hb⟩ := info_parts hinfo
  refine wp_buildSlice t e 1 #[(0, x)] ho cs i z hu hi hz (by rw [hs]; omega) (by rw [hs]; omega) ?_ h
  have hl : ((Array.range (1 * i.size)).map (fun j => z.cells[j % z.cells.size]!)).size = i.size := by simp
  have := fill_one cs ((Array.range (1 * i.size)).map (fun j => z.cells[j % z.cells.size]!)) (by rw [hl, hs, hsz])
  rw [hl] at this
  simpa [hx] using this
theorem step_appendN {ops : Array Oper} {o : Oper} {a : Act} {w : World} {K : Act → World → Prop} {Q : Exit → Act → World → Prop} {E : Prop} (hgd : o.guard = none) (s x : Operand) (t : TypeId)
    (ho : o.op = .call { callee := .builtin .append, args := #[s, x], argTypes := #[t, t] })
    (e : TypeId) (z : Value) (sz bytes : Nat) (ht : P.underlying t = some (.slice e)) (hinfo : (P.info? e).map (fun i => (i.zero, i.size, i.bytes)) = some (some z, sz, bytes)) (hz : z.cells.size = sz) (hsz : 0 < sz)
    (v : Value) (n : Nat) (vs : List Value) (hs : a.eval s = v) (hown : Sl w e sz v n vs)
    (sp : Option Addr) (m c : Nat) (news : List Value) (hx : a.eval x = .slice sp m c) (hl : news.length = m * sz) (hc : sp = none → c = 0) (hrd : Rd w sp news) (h1 : ∀ u ∈ news, u.oneCell' = true)
    (h63 : n + m ≤ maxLen) (hbytes : (n + m) * bytes ≤ 140737488355328)
    (h : ∀ a' c' w', Sl w' e sz (.slice a' (n + m) c') (n + m) (vs ++ news) → Keep (blks v) w w' → Fr w (blks v) (blks (.slice a' (n + m) c')) → K (a.put o.dst (.slice a' (n + m) c')) w') : if Region.wanted o (yielded ops a.tmps) = true then Oper.wp P o a w K Q else E := by
  refine step_appendS hgd s x t ho e z sz bytes ht hinfo hz hsz v n vs hs hown sp m c news hx hl hc hrd h1 h63 hbytes ?_
  intro v' w' h2 h3 h4
  obtain ⟨a', c', rfl, -⟩ := h2.form
  refine h a' c' w' h2 h3 (fun b hb => ?_)
  rcases h4 with e | e
  · rw [e] at hb; exact Or.inl hb
  · exact Or.inr (e b hb)
end
/-- A result stored into a variable of its own. -/
theorem step_storeB {ops : Array Oper} {o : Oper} {a : Act} {w : World} {K : Act → World → Prop} {Q : Exit → Act → World → Prop} {E : Prop} (hgd : o.guard = none) (x y : Operand) (ho : o.op = .store 39 x y) (p : Nat) (z : Res) (old : Array Value)
    (hx : a.eval x = .pointer (some ⟨p, 0, none⟩)) (hy : a.eval y = .agg z.cells.toArray) (hB : Blk w p old 39) (hsz : old.size = 65) (h : ∀ w', Blk w' p z.cells.toArray 39 → Keep [p] w w' → K (a.put o.dst undef) w') :
    if Region.wanted o (yielded ops a.tmps) = true then Oper.wp Try.prog o a w K Q else E := by
  have hw : Region.wanted o (yielded ops a.tmps) = true := by simp [Region.wanted, hgd]
  rw [if_pos hw]
  have hB' : Blk w p (old.toList).toArray 39 := by simpa using hB
  obtain ⟨ht, hb, hk⟩ := setCells_row (vs := z.cells) (P := []) (M := old.toList) (S := []) (o := 0) hB' (by simp) rfl (by rw [z.len, Array.length_toList, hsz]) z.one
  exact wp_store_mid 39 x y ho p 0 z.cells.toArray hx hy ht (hi39 z) (all_oneCell_toArray z.one) (h _ (by simpa using hb) hk)
theorem wpList_storeB {ops : Array Oper} {rest : List Oper} {o : Oper} {a : Act} {w : World} {Q : Exit → Act → World → Prop} (hgd : o.guard = none) (x y : Operand) (ho : o.op = .store 39 x y) (p : Nat) (z : Res) (old : Array Value)
    (hx : a.eval x = .pointer (some ⟨p, 0, none⟩)) (hy : a.eval y = .agg z.cells.toArray) (hB : Blk w p old 39) (hsz : old.size = 65) (h : ∀ w', Blk w' p z.cells.toArray 39 → Keep [p] w w' → wpList Try.prog ops Q rest (a.put o.dst undef) w') : wpList Try.prog ops Q (o :: rest) a w := by
  have hB' : Blk w p (old.toList).toArray 39 := by simpa using hB
  obtain ⟨ht, hb, hk⟩ := setCells_row (vs := z.cells) (P := []) (M := old.toList) (S := []) (o := 0) hB' (by simp) rfl (by rw [z.len, Array.length_toList, hsz]) z.one
  exact wpList_store_mid hgd 39 x y ho p 0 z.cells.toArray hx hy ht (hi39 z) (all_oneCell_toArray z.one) (h _ (by simpa using hb) hk)
end Go.Proofs.Ytjdkeabimcajlaa

/- TreeReturns: its walk. -/
import Derived.Test.YtgeihjpifbkpkaaDoorTo
import Derived.Test.YtgeihjpifbkpkaaDoorIs
set_option linter.unusedVariables false
set_option linter.unusedSimpArgs false
namespace Go.Proofs.YtgeihjpifbkpkaaDoor
open Go.RowKit

/-- append([]T{}, x...) -/
theorem wpList_app0 {P : Program} {ops : Array Oper} {rest : List Oper} {o : Oper} {a : Act} {Q : Exit → Act → World → Prop} (w0 : World) (hgd : o.guard = none) (s x : Operand) (t : TypeId)
    (ho : o.op = .call { callee := .builtin .append, args := #[s, x], argTypes := #[t, t] })
    (e : TypeId) (z : Value) (sz bytes : Nat) (ht : P.underlying t = some (.slice e)) (hinfo : (P.info? e).map (fun i => (i.zero, i.size, i.bytes)) = some (some z, sz, bytes)) (hz : z.cells.size = sz) (hsz : 0 < sz)
    (hs : a.eval s = .slice (some ⟨w0.heap.size, 0, none⟩) 0 0)
    (sp : Option Addr) (m c : Nat) (news : List Value) (hx : a.eval x = .slice sp m c) (hl : news.length = m * sz) (hc : sp = none → c = 0) (hrd : Rd w0 sp news) (h1 : ∀ u ∈ news, u.oneCell' = true)
    (h63 : m ≤ maxLen) (hbytes : m * bytes ≤ 140737488355328)
    (h : ∀ a' c' w', Sl w' e sz (.slice a' m c') m news → Keep [] w0 w' → Fr w0 [] (blks (.slice a' m c')) → wpList P ops Q rest (a.put o.dst (.slice a' m c')) w') : wpList P ops Q (o :: rest) a (w0.alloc (.cells #[] e)) := by
  have k0 : Keep [] w0 (w0.alloc (.cells #[] e)) := (Keep.refl [] w0).alloc _
  have S0 : Sl (w0.alloc (.cells #[] e)) e sz (.slice (some ⟨w0.heap.size, 0, none⟩) 0 0) 0 [] := Sl.made w0 e sz #[] 0 _ rfl (by simp) (by simp [maxLen])
  have f0 : ∀ b ∈ blks (.slice (some ⟨w0.heap.size, 0, none⟩) 0 0), w0.heap.size ≤ b := fun b hb => by rw [show b = w0.heap.size by simpa [blks, Value.ownBlock] using hb]; exact Nat.le_refl _
  refine wpList_appendN hgd s x t ho e z sz bytes ht hinfo hz hsz _ 0 [] hs S0 sp m c news hx hl hc (hrd.keep k0 (by simp)) h1 (by omega) (by rw [Nat.zero_add]; exact hbytes) ?_
  intro a' c' w' h2 h3 h4
  rw [Nat.zero_add, List.nil_append] at h2
  rw [Nat.zero_add] at h4 ⊢
  refine h a' c' w' h2 (k0.trans h3 (fun b hb => Or.inr (f0 b hb))) (fun b hb => Or.inr ?_)
  rcases h4 b hb with h5 | h5
  · exact f0 b h5
  · have := k0.size; omega
theorem sl_nilcap {w : World} {e : TypeId} {sz : Nat} {a : Option Addr} {n c : Nat} {vs : List Value} (h : Sl w e sz (.slice a n c) n vs) : a = none → c = 0 := by
  obtain ⟨_, _, e, _, _, _, _, h⟩ := h.form
  simp only [Value.slice.injEq, true_and] at e
  rw [e.1, e.2]; exact h
theorem sl_le {w : World} {e : TypeId} {sz : Nat} {a : Option Addr} {n c : Nat} {vs : List Value} (h : Sl w e sz (.slice a n c) n vs) : n ≤ c := by
  obtain ⟨_, _, e, _, _, h, _, _⟩ := h.form
  simp only [Value.slice.injEq, true_and] at e
  rw [e.2]; exact h
theorem rd_take {w : World} {a : Option Addr} {xs : List UInt8} (h : Rd w a (bs xs)) (k : Nat) : Rd w a (bs (xs.take k)) := by
  rcases h with e | ⟨b, off, e, hc⟩
  · left
    have : xs = [] := by simpa [bs] using e
    subst this; simp
  · refine Or.inr ⟨b, off, e, fun j v hv => hc j v ?_⟩
    have hj := (List.getElem?_eq_some_iff.1 hv).1
    rw [bs_length, List.length_take] at hj
    rw [bs, List.getElem?_map, List.getElem?_take, if_pos (by omega)] at hv
    rw [bs, List.getElem?_map]; exact hv

set_option maxHeartbeats 2000000 in
set_option maxRecDepth 100000 in
theorem treeReturns_no (a : Option Addr) (n c : Nat) (l : List Ent) (b : Option Addr) (m d : Nat) (ms : List UInt8) (cut : Int) (w : World) (hx : EsIn w a n c l) (hT : Tabs w) (h0 : isT l = false) :
    Calls Tryd.prog 6 #[.slice a n c, .slice b m d, .int .i64 cut] w fun e w' => e = .returned (.bool true) ∧ Keep [] w w' := by
  have EN := Lib.hid (fun W h t => by have := encode_any a n c l W h t; rwa [show encX l = [] by simp [encX, h0], show encC l = 70 by simp [encC, h0]] at this : ∀ W, EsIn W a n c l → Tabs W → Calls Tryd.prog 14 #[.slice a n c] W (GiveE W [] 70))
  have IS := Lib.hid (fun W h => by have := is_any a n c l W h; rwa [h0] at this : ∀ W, EsIn W a n c l → Calls Tryd.prog 23 #[.slice a n c] W fun e w' => e = .returned (.bool false) ∧ Keep [] W w')
  clear h0
  go_enter Tryd.func6, Tryd.ntmps6
  go_upto_region 3 with (first
    | (go_at_call 10; refine (known_any _ hT).mono ?_; rintro e w1 ⟨rfl, k1⟩)
    | fail)
  have hx1 := hx.keep k1 (by simp)
  go_wp2_with (first
    | (go_at_call 14; refine (EN.out _ hx1 (hT.keep k1)).mono ?_; rintro e w2 ⟨a2, n2, c2, rfl, l2, s2, f2, m2, k2⟩; have hx2 := hx1.keep k2 (by simp))
    | (go_at_call 23; refine (IS.out _ hx2).mono ?_; rintro e w3 ⟨rfl, k3⟩)
    | fail)
  go_returns
  exact ⟨rfl, (k1.trans' k2).trans' k3⟩

set_option maxHeartbeats 2000000 in
set_option maxRecDepth 100000 in
theorem treeReturns_yes (a : Option Addr) (n c : Nat) (l : List Ent) (b : Option Addr) (m d : Nat) (ms : List UInt8) (cut : Int) (w : World) (hx : EsIn w a n c l) (hy : InBytes w b m d ms) (hT : Tabs w) (h0 : isT l = true) :
    Calls Tryd.prog 6 #[.slice a n c, .slice b m d, .int .i64 cut] w fun e w' => e = .returned (.bool true) ∧ Keep [] w w' := by
  have hNle := encTo_len h0 l.length
  rw [encTo_end] at hNle
  have hN2 : 2 ≤ (encR l).length := by rw [enc_len]; omega
  have hb := par_back h0
  have hmo := fun {m} => par_more (l := l) h0 (m := m)
  have hcu := fun {k} => par_cut (l := l) h0 (k := k)
  obtain ⟨X, hX⟩ : ∃ X, encR l = X := ⟨_, rfl⟩
  have EN := Lib.hid (fun W h t => by have := encode_any a n c l W h t; rwa [show encX l = X by unfold encX; rw [if_pos h0]; exact hX, show encC l = 0 by unfold encC; rw [if_pos h0]] at this : ∀ W, EsIn W a n c l → Tabs W → Calls Tryd.prog 14 #[.slice a n c] W (GiveE W X 0))
  rw [hX] at hNle hN2 hb hmo hcu
  obtain ⟨N, hN⟩ : ∃ N, X.length = N := ⟨_, rfl⟩
  have P1 := Lib.hid (fun W a' c' h1 h2 t => by have := parse_any a' N c' X W hN h1 h2 (by omega) t; rwa [hb.1, hb.2] at this : ∀ W a' c', (a' = none → c' = 0) → Rd W a' (bs X) → Tabs W → Calls Tryd.prog 19 #[.slice a' N c'] W (GiveT W l 0))
  have P2 := Lib.hid (fun W a' n' c' h0 h1 h2 h3 h4 t => by have := parse_any a' n' c' (X ++ ms) W h0 h1 h2 h3 t; rwa [(hmo h4).1, (hmo h4).2] at this : ∀ W a' n' c', (X ++ ms).length = n' → (a' = none → c' = 0) → Rd W a' (bs (X ++ ms)) → n' ≤ 140737488355328 → ms ≠ [] → Tabs W → Calls Tryd.prog 19 #[.slice a' n' c'] W (GiveT W [] 70))
  have P3 := Lib.hid (fun W a' n' c' k h0 h1 h2 h3 t => by have := parse_any a' n' c' (X.take k) W h0 h1 h2 (by rw [← h0, List.length_take]; omega) t; rwa [(hcu h3).1, (hcu h3).2] at this : ∀ W a' n' c' k, (X.take k).length = n' → (a' = none → c' = 0) → Rd W a' (bs (X.take k)) → k < X.length → Tabs W → Calls Tryd.prog 19 #[.slice a' n' c'] W (GiveT W [] 70))
  have AL := Lib.hid (fun W a' c' h g => by have := alike_any a' a l.length c' n c l l W h g; rwa [decide_eq_true rfl] at this : ∀ W a' c', EsIn W a' l.length c' l → EsIn W a n c l → Calls Tryd.prog 21 #[.slice a' l.length c', .slice a n c] W fun e w' => e = .returned (.bool true) ∧ Keep [] W w')
  have h32 := isT_32 h0
  have HNM := Lib.hid (fun x hxl => by obtain ⟨i, hi, e⟩ := List.mem_iff_getElem.1 hxl; have := (isT_at h0 (i := i) (x := x) (by rw [List.getElem?_eq_getElem hi, e])).sz; omega : ∀ x ∈ l, x.name.size ≤ 9223372036854775807)
  rw [hN] at hNle hN2
  have HN := Lib.hid hN
  have HY := Lib.hid hy
  have hm1 : m ≤ 140737488351232 := by have := hy.hle; have := hy.reach; omega
  have HML := Lib.hid hy.hlen
  clear hb hmo hcu hX hN h0 hy
  go_enter Tryd.func6, Tryd.ntmps6
  go_upto_region 3 with (first
    | (go_at_call 10; refine (known_any _ hT).mono ?_; rintro e w1 ⟨rfl, k1⟩)
    | fail)
  have hx1 := hx.keep k1 (by simp)
  go_upto_region 4 with (first
    | (go_at_call 14; refine (EN.out _ hx1 (hT.keep k1)).mono ?_; rintro e w2 ⟨a2, n2, c2, rfl, l2, s2, f2, m2, k2⟩)
    | fail)
  obtain rfl : N = n2 := HN.out.symm.trans l2
  have k12 := k1.trans' k2
  have j0 : ((N : Int) == 0) = false := by simp; omega
  have j1 : ¬ (N : Int) = 0 := by omega
  go_upto_region 9 with (first
    | (go_at_call 19; refine (P1.out _ _ _ (sl_nilcap s2) s2.rd (hT.keep k12)).mono ?_; rintro e w3 ⟨a3, c3, rfl, s3, f3, k3⟩)
    | fail)
  have k13 := k12.trans' k3
  have s2b := s2.keep k3 (by simp)
  have c2le := sl_le s2b
  obtain ⟨T, hTm⟩ : ∃ T, cut.tmod N = T := ⟨_, rfl⟩
  have t1 : -(N : Int) < T := by rw [← hTm]; exact Int.lt_tmod_of_pos cut (by omega)
  have t2 : T < N := by rw [← hTm]; exact Int.tmod_lt_of_pos cut (by omega)
  have t3 : IntKind.i64.wrap T = T := IntWalk.i64_in _ (by omega)
  have t4 : IntKind.i64.wrap (T + N) = T + N := IntWalk.i64_in _ (by omega)
  clear s2 f2 hx1 P1 EN
  by_cases hm0 : m = 0
  · have i0 : ¬ (0 : Int) < m := by omega
    by_cases q1 : T < 0
    · obtain ⟨k, hk⟩ : ∃ k : Nat, T + (N : Int) = k := ⟨(T + N).toNat, by omega⟩
      rw [hk] at t4
      have q2 : (k : Int) < N := by omega
      have q3 : (k : Int) ≤ c2 := by omega
      have q4 : (0 : Int) ≤ k := by omega
      have q5 : k < X.length := by rw [HN.out]; omega
      obtain ⟨g2, o2, rfl, -⟩ := s2b.rd.at (k := 0) (by rw [bs_length, HN.out]; omega)
      have rT := rd_take (s2b.rd) k
      have hlk : (X.take k).length = k := by rw [List.length_take]; omega
      have HLK := Lib.hid hlk
      have Q5 := Lib.hid q5
      clear hlk q5
      go_upto_region 15 with fail
      go_upto_region 16 with (first
        | (at_builtin; go_must (refine wpList_app0 w3 rfl (.tmp 58) (.tmp 61) 26 rfl 5 (.int .u8 0) 1 1 Tryd.underlying26 info5 rfl (by omega) rfl (some ⟨g2, o2, none⟩) k c2 (bs (X.take k)) rfl (by rw [bs_length, HLK.out, Nat.mul_one]) (by simp) rT (bs_one _) (by simp only [maxLen]; omega) (by omega) ?_; intro a7 c7 w7 hs7 hk7 hf7; have k8 := k13.trans' hk7))
        | (go_at_call 19; refine (P3.out _ a7 _ c7 k HLK.out (sl_nilcap hs7) hs7.rd Q5.out (hT.keep k8)).mono ?_; rintro e w8 ⟨a8, c8, rfl, s8, f8, k9⟩)
        | fail)
      have kk9 := k8.trans' k9
      have k39 : Keep [] w3 w8 := hk7.trans' k9
      have E3 := esIn_of (s3.keep k39 (by simp)) rfl (by omega) HNM.out
      have hx9 := hx.keep kk9 (by simp)
      have j9 : (N : Int) ≤ 2114 := by omega
      go_wp2_with (first
        | (go_at_call 21; refine (AL.out _ _ _ E3 hx9).mono ?_; rintro e wA ⟨rfl, kA⟩)
        | fail)
      go_returns
      exact ⟨rfl, kk9.trans' kA⟩
    · obtain ⟨k, rfl⟩ : ∃ k : Nat, T = k := ⟨T.toNat, by omega⟩
      have q2 : (k : Int) < N := by omega
      have q3 : (k : Int) ≤ c2 := by omega
      have q4 : (0 : Int) ≤ k := by omega
      have q5 : k < X.length := by rw [HN.out]; omega
      obtain ⟨g2, o2, rfl, -⟩ := s2b.rd.at (k := 0) (by rw [bs_length, HN.out]; omega)
      have rT := rd_take (s2b.rd) k
      have hlk : (X.take k).length = k := by rw [List.length_take]; omega
      have HLK := Lib.hid hlk
      have Q5 := Lib.hid q5
      clear hlk q5
      go_upto_region 15 with fail
      go_upto_region 16 with (first
        | (at_builtin; go_must (refine wpList_app0 w3 rfl (.tmp 58) (.tmp 61) 26 rfl 5 (.int .u8 0) 1 1 Tryd.underlying26 info5 rfl (by omega) rfl (some ⟨g2, o2, none⟩) k c2 (bs (X.take k)) rfl (by rw [bs_length, HLK.out, Nat.mul_one]) (by simp) rT (bs_one _) (by simp only [maxLen]; omega) (by omega) ?_; intro a7 c7 w7 hs7 hk7 hf7; have k8 := k13.trans' hk7))
        | (go_at_call 19; refine (P3.out _ a7 _ c7 k HLK.out (sl_nilcap hs7) hs7.rd Q5.out (hT.keep k8)).mono ?_; rintro e w8 ⟨a8, c8, rfl, s8, f8, k9⟩)
        | fail)
      have kk9 := k8.trans' k9
      have k39 : Keep [] w3 w8 := hk7.trans' k9
      have E3 := esIn_of (s3.keep k39 (by simp)) rfl (by omega) HNM.out
      have hx9 := hx.keep kk9 (by simp)
      have j9 : (N : Int) ≤ 2114 := by omega
      go_wp2_with (first
        | (go_at_call 21; refine (AL.out _ _ _ E3 hx9).mono ?_; rintro e wA ⟨rfl, kA⟩)
        | fail)
      go_returns
      exact ⟨rfl, kk9.trans' kA⟩
  · have i0 : (0 : Int) < m := by omega
    have HM0 := Lib.hid (show ms ≠ [] by rintro rfl; exact hm0 HML.out.symm)
    have rX := s2b.rd
    have ry := HY.out.rd.keep k13 (by simp)
    go_upto_region 11 with fail
    go_upto_region 12 with (first
      | (at_builtin; have h := hs4; go_must (refine wpList_appendN rfl (.tmp 41) (.tmp 42) 26 rfl 5 (.int .u8 0) 1 1 Tryd.underlying26 info5 rfl (by omega) (.slice a4 N c4) N _ rfl hs4 b m d (bs ms) rfl (by rw [bs_length, HML.out, Nat.mul_one]) HY.out.hnil (ry.keep k4 (by simp)) (bs_one _) (by simp only [maxLen]; omega) (by omega) ?_; intro a5 c5 w5 hs5 hk5 hf5; have k35 : Keep [] w3 w5 := k4.trans hk5 (fun b hb => by rcases f4 b hb with h | h; cases h; exact Or.inr h)))
      | (at_builtin; go_must (refine wpList_app0 w3 rfl (.tmp 39) (.tmp 40) 26 rfl 5 (.int .u8 0) 1 1 Tryd.underlying26 info5 rfl (by omega) rfl a2 N c2 (bs X) rfl (by rw [bs_length, HN.out, Nat.mul_one]) (sl_nilcap s2b) rX (bs_one _) (by simp only [maxLen]; omega) (by omega) ?_; intro a4 c4 w4 hs4 k4 f4))
      | (go_at_call 19; refine (P2.out _ a5 _ c5 (by rw [List.length_append, HN.out, HML.out]) (sl_nilcap hs5) (by rw [bs_append]; exact hs5.rd) (by omega) HM0.out (hT.keep (k13.trans' k35))).mono ?_; rintro e w6 ⟨a6, c6, rfl, s6, f6, k6⟩)
      | fail)
    have k36 := k35.trans' k6
    have k16 := k13.trans' k36
    clear hs4 hs5 hk5 hf5 s6 f6 f4
    by_cases q1 : T < 0
    · obtain ⟨k, hk⟩ : ∃ k : Nat, T + (N : Int) = k := ⟨(T + N).toNat, by omega⟩
      rw [hk] at t4
      have q2 : (k : Int) < N := by omega
      have q3 : (k : Int) ≤ c2 := by omega
      have q4 : (0 : Int) ≤ k := by omega
      have q5 : k < X.length := by rw [HN.out]; omega
      obtain ⟨g2, o2, rfl, -⟩ := s2b.rd.at (k := 0) (by rw [bs_length, HN.out]; omega)
      have rT := rd_take (s2b.rd.keep k36 (by simp)) k
      have hlk : (X.take k).length = k := by rw [List.length_take]; omega
      have HLK := Lib.hid hlk
      have Q5 := Lib.hid q5
      clear hlk q5
      go_upto_region 15 with fail
      go_upto_region 16 with (first
        | (at_builtin; go_must (refine wpList_app0 w6 rfl (.tmp 58) (.tmp 61) 26 rfl 5 (.int .u8 0) 1 1 Tryd.underlying26 info5 rfl (by omega) rfl (some ⟨g2, o2, none⟩) k c2 (bs (X.take k)) rfl (by rw [bs_length, HLK.out, Nat.mul_one]) (by simp) rT (bs_one _) (by simp only [maxLen]; omega) (by omega) ?_; intro a7 c7 w7 hs7 hk7 hf7; have k8 := k16.trans' hk7))
        | (go_at_call 19; refine (P3.out _ a7 _ c7 k HLK.out (sl_nilcap hs7) hs7.rd Q5.out (hT.keep k8)).mono ?_; rintro e w8 ⟨a8, c8, rfl, s8, f8, k9⟩)
        | fail)
      have kk9 := k8.trans' k9
      have k39 : Keep [] w3 w8 := (k36.trans' hk7).trans' k9
      have E3 := esIn_of (s3.keep k39 (by simp)) rfl (by omega) HNM.out
      have hx9 := hx.keep kk9 (by simp)
      have j9 : (N : Int) ≤ 2114 := by omega
      go_wp2_with (first
        | (go_at_call 21; refine (AL.out _ _ _ E3 hx9).mono ?_; rintro e wA ⟨rfl, kA⟩)
        | fail)
      go_returns
      exact ⟨rfl, kk9.trans' kA⟩
    · obtain ⟨k, rfl⟩ : ∃ k : Nat, T = k := ⟨T.toNat, by omega⟩
      have q2 : (k : Int) < N := by omega
      have q3 : (k : Int) ≤ c2 := by omega
      have q4 : (0 : Int) ≤ k := by omega
      have q5 : k < X.length := by rw [HN.out]; omega
      obtain ⟨g2, o2, rfl, -⟩ := s2b.rd.at (k := 0) (by rw [bs_length, HN.out]; omega)
      have rT := rd_take (s2b.rd.keep k36 (by simp)) k
      have hlk : (X.take k).length = k := by rw [List.length_take]; omega
      have HLK := Lib.hid hlk
      have Q5 := Lib.hid q5
      clear hlk q5
      go_upto_region 15 with fail
      go_upto_region 16 with (first
        | (at_builtin; go_must (refine wpList_app0 w6 rfl (.tmp 58) (.tmp 61) 26 rfl 5 (.int .u8 0) 1 1 Tryd.underlying26 info5 rfl (by omega) rfl (some ⟨g2, o2, none⟩) k c2 (bs (X.take k)) rfl (by rw [bs_length, HLK.out, Nat.mul_one]) (by simp) rT (bs_one _) (by simp only [maxLen]; omega) (by omega) ?_; intro a7 c7 w7 hs7 hk7 hf7; have k8 := k16.trans' hk7))
        | (go_at_call 19; refine (P3.out _ a7 _ c7 k HLK.out (sl_nilcap hs7) hs7.rd Q5.out (hT.keep k8)).mono ?_; rintro e w8 ⟨a8, c8, rfl, s8, f8, k9⟩)
        | fail)
      have kk9 := k8.trans' k9
      have k39 : Keep [] w3 w8 := (k36.trans' hk7).trans' k9
      have E3 := esIn_of (s3.keep k39 (by simp)) rfl (by omega) HNM.out
      have hx9 := hx.keep kk9 (by simp)
      have j9 : (N : Int) ≤ 2114 := by omega
      go_wp2_with (first
        | (go_at_call 21; refine (AL.out _ _ _ E3 hx9).mono ?_; rintro e wA ⟨rfl, kA⟩)
        | fail)
      go_returns
      exact ⟨rfl, kk9.trans' kA⟩
end Go.Proofs.YtgeihjpifbkpkaaDoor

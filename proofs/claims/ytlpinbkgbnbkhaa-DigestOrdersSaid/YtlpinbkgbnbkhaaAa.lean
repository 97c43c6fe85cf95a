/- roomy: rows with marks behind their ends, and marks behind them. -/
import Derived.Test.YtlpinbkgbnbkhaaW
set_option linter.unusedVariables false
set_option linter.unusedSimpArgs false
namespace Go.Proofs.Ytlpinbkgbnbkhaa
open Go.RowKit

theorem info29 : (Try.prog.info? 29).map (fun i => (i.zero, i.size, i.bytes)) = some (some (.slice none 0 0), 1, 24) := by kernel_rfl
/-- 'make([][]byte, 0, c)'. -/
theorem make22 (c : Nat) (hc : c ≤ 5000000) : ∃ Z : Array Value, Z.size = c ∧ ∀ w, (Instr.makeSlice 22 (.int .i64 0) (.int .i64 (c : Int))).run Try.prog w = .ok (.slice (some ⟨w.heap.size, 0, none⟩) 0 c) (w.alloc (.cells Z 29)) := by
  obtain ⟨i, hi, hzz⟩ := Option.map_eq_some_iff.1 info29
  simp only [Prod.mk.injEq] at hzz
  obtain ⟨hz, hs, hb⟩ := hzz
  refine ⟨madeCells #[.slice none 0 0] c, by simp [madeCells], fun w => ?_⟩
  have hr := run_make (P := Try.prog) w 22 29 i (.slice none 0 0) Try.underlying22 hi hz .i64 .i64 0 (c : Int) (by omega) (by omega) (by rw [hb]; omega) (by omega)
  have e : (Value.slice none 0 0).cells = #[.slice none 0 0] := rfl
  rw [hs, e] at hr
  simp only [Int.toNat_natCast, Nat.mul_one] at hr
  exact hr

/-- Values gathered in a slice of the call's own: each has blocks of its own. -/
structure Gath (base : Nat) (w : World) (a : Option Addr) (k c : Nat) (vs : List Value) : Prop where
  own : Sl w 29 1 (.slice a k c) k vs
  lt : ∀ v ∈ vs, ∀ b ∈ blks v, b < w.heap.size
  dj : ∀ (i j : Nat) (v v' : Value), i ≠ j → vs[i]? = some v → vs[j]? = some v' → ∀ b ∈ blks v, b ∉ blks v'
  out : ∀ v ∈ vs, ∀ b ∈ blks v, b ∉ blks (.slice a k c)
  since : ∀ v ∈ vs, ∀ b ∈ blks v, base ≤ b
  since' : ∀ b ∈ blks (.slice a k c), base ≤ b
theorem Gath.keep {base : Nat} {w w' : World} {a : Option Addr} {k c : Nat} {vs : List Value} (h : Gath base w a k c vs) (hk : Keep [] w w') : Gath base w' a k c vs :=
  ⟨h.own.keep hk (by simp), fun v hv b hb => by have := h.lt v hv b hb; have := hk.size; omega, h.dj, h.out, h.since, h.since'⟩
theorem Gath.len {base : Nat} {w : World} {a : Option Addr} {k c : Nat} {vs : List Value} (h : Gath base w a k c vs) : vs.length = k := by have := h.own.1; omega
theorem Gath.add {base : Nat} {w w1 w6 : World} {a a' : Option Addr} {k c c' : Nat} {vs : List Value} {v : Value} (h : Gath base w a k c vs) (hb0 : base ≤ w.heap.size) (hv : ∀ b ∈ blks v, w.heap.size ≤ b) (hv1 : ∀ b ∈ blks v, b < w1.heap.size) (k1 : Keep [] w w1)
    (hs : Sl w6 29 1 (.slice a' (k + 1) c') (k + 1) (vs ++ [v])) (hk : Keep (blks (.slice a k c)) w1 w6) (hf : Fr w1 (blks (.slice a k c)) (blks (.slice a' (k + 1) c'))) : Gath base w6 a' (k + 1) c' (vs ++ [v]) := by
  have hl := h.len
  have s1 := k1.size
  have s2 := hk.size
  have at' : ∀ i u, (vs ++ [v])[i]? = some u → (i < k ∧ vs[i]? = some u) ∨ (i = k ∧ u = v) := fun i u hu => by
    rw [List.getElem?_append] at hu
    split at hu
    · exact Or.inl ⟨by omega, hu⟩
    · rw [List.getElem?_singleton] at hu
      split at hu
      · cases hu; exact Or.inr ⟨by omega, rfl⟩
      · cases hu
  refine ⟨hs, ?_, ?_, ?_, ?_, ?_⟩
  · intro u hu b hb
    rcases List.mem_append.1 hu with h1 | h1
    · have := h.lt u h1 b hb; omega
    · simp only [List.mem_singleton] at h1; subst h1
      have := hv1 b hb; omega
  · intro i j u u' hij hi hj b hb hb'
    rcases at' i u hi with ⟨_, h1⟩ | ⟨e1, rfl⟩ <;> rcases at' j u' hj with ⟨_, h2⟩ | ⟨e2, rfl⟩
    · exact h.dj i j u u' hij h1 h2 b hb hb'
    · have := h.lt u (List.mem_of_getElem? h1) b hb; have := hv b hb'; omega
    · have := h.lt u' (List.mem_of_getElem? h2) b hb'; have := hv b hb; omega
    · omega
  · intro u hu b hb hb'
    rcases hf b hb' with h2 | h2
    · rcases List.mem_append.1 hu with h1 | h1
      · exact h.out u h1 b hb h2
      · simp only [List.mem_singleton] at h1; subst h1
        have := hv b hb; have := h.own.lt b h2; omega
    · rcases List.mem_append.1 hu with h1 | h1
      · have := h.lt u h1 b hb; omega
      · simp only [List.mem_singleton] at h1; subst h1
        have := hv1 b hb; omega
  · intro u hu b hb
    rcases List.mem_append.1 hu with h1 | h1
    · exact h.since u h1 b hb
    · simp only [List.mem_singleton] at h1; subst h1
      have := hv b hb; omega
  · intro b hb
    rcases hf b hb with h2 | h2
    · exact h.since' b h2
    · omega
def RoomyAt (w : World) (k : Nat) (vs : List Value) (xss : List (List UInt8)) : Prop := ∀ i x, i < k → xss[i]? = some x → ∃ a c, vs[i]? = some (.slice a x.length c) ∧ Roomy w a x.length c x
theorem blks_len (a : Option Addr) (n m c : Nat) : blks (.slice a n c) = blks (.slice a m c) := by cases a <;> rfl
theorem RoomyAt.keep {w w' : World} {k : Nat} {S : List Nat} {vs : List Value} {xss : List (List UInt8)} (h : RoomyAt w k vs xss) (hk : Keep S w w') (hS : ∀ v ∈ vs, ∀ b ∈ blks v, b ∉ S) : RoomyAt w' k vs xss := fun i x hi hx => by
  obtain ⟨a, c, h1, h2⟩ := h i x hi hx
  exact ⟨a, c, h1, Sl.keep h2 hk (fun b hb => hS _ (List.mem_of_getElem? h1) b (by rw [blks_len a _ (x.length + 160)]; exact hb))⟩
theorem RoomyAt.add {w : World} {k : Nat} {vs : List Value} {xss : List (List UInt8)} {x : List UInt8} {a : Option Addr} {c : Nat} (h : RoomyAt w k vs xss) (hl : vs.length = k) (hx : xss[k]? = some x) (hr : Roomy w a x.length c x) : RoomyAt w (k + 1) (vs ++ [.slice a x.length c]) xss := fun i y hi hy => by
  by_cases hik : i = k
  · subst hik
    rw [hx] at hy; cases hy
    exact ⟨a, c, by rw [List.getElem?_append_right (by omega), hl, Nat.sub_self]; rfl, hr⟩
  · obtain ⟨a', c', h1, h2⟩ := h i y (by omega) hy
    exact ⟨a', c', by rw [List.getElem?_append_left (by omega)]; exact h1, h2⟩
theorem RoomyAt.app {w : World} {k : Nat} {vs : List Value} {xss : List (List UInt8)} (h : RoomyAt w k vs xss) (hl : k ≤ vs.length) (v : Value) : RoomyAt w k (vs ++ [v]) xss := fun i y hi hy => by
  obtain ⟨a', c', h1, h2⟩ := h i y hi hy
  exact ⟨a', c', by rw [List.getElem?_append_left (by omega)]; exact h1, h2⟩
theorem Gath.some {base : Nat} {w : World} {a : Option Addr} {k c : Nat} {vs : List Value} (h : Gath base w a k c vs) (hk : 0 < k) : ∃ g off, a = some ⟨g, off, none⟩ := by
  obtain ⟨h1, h2, h3, h4, h5⟩ := Sl.use h.own
  rcases Sl.parts h.own with ⟨h6, h7⟩ | h6
  · omega
  · exact h6
def MarksAt (w : World) (n : Nat) (vs : List Value) (m : Nat) : Prop := ∀ j, j < m → ∃ a c, vs[n + j]? = some (.slice a 1 c) ∧ Sl w 5 1 (.slice a 1 c) 1 [.int .u8 99]
theorem MarksAt.keep {w w' : World} {n m : Nat} {S : List Nat} {vs : List Value} (h : MarksAt w n vs m) (hk : Keep S w w') (hS : ∀ v ∈ vs, ∀ b ∈ blks v, b ∉ S) : MarksAt w' n vs m := fun j hj => by
  obtain ⟨a, c, h1, h2⟩ := h j hj
  exact ⟨a, c, h1, h2.keep hk (fun b hb => hS _ (List.mem_of_getElem? h1) b hb)⟩
theorem MarksAt.add {w : World} {n m : Nat} {vs : List Value} {a : Option Addr} {c : Nat} (h : MarksAt w n vs m) (hl : vs.length = n + m) (hr : Sl w 5 1 (.slice a 1 c) 1 [.int .u8 99]) : MarksAt w n (vs ++ [.slice a 1 c]) (m + 1) := fun j hj => by
  by_cases hik : j = m
  · subst hik
    exact ⟨a, c, by rw [List.getElem?_append_right (by omega), hl, Nat.sub_self]; rfl, hr⟩
  · obtain ⟨a', c', h1, h2⟩ := h j (by omega)
    exact ⟨a', c', by rw [List.getElem?_append_left (by omega)]; exact h1, h2⟩
/-- Rows with marks, all behind the end too. -/
def Held (base : Nat) (w : World) (a : Option Addr) (n c : Nat) (xss : List (List UInt8)) : Prop := ∃ vs, Gath base w a (n + 3) c vs ∧ RoomyAt w n vs xss ∧ MarksAt w n vs 3

set_option maxHeartbeats 4000000 in
set_option maxRecDepth 100000 in
theorem roomy_any (a : Option Addr) (len cap : Nat) (xss : List (List UInt8)) (w : World) (hx : InRows w a len cap xss) (ht : totR xss + len ≤ 3000000) :
    Calls Try.prog 14 #[.slice a len cap] w fun e w' => ∃ a' c', e = .returned (.slice a' len c') ∧ Held w.heap.size w' a' len c' xss ∧ Keep [] w w' := by
  obtain ⟨Z, hZ, hmk0⟩ := make22 (len + 3) (by omega)
  have hmk : ∀ w, (Instr.makeSlice 22 (.int .i64 0) (.int .i64 ((len : Int) + 3))).run Try.prog w = .ok (.slice (some ⟨w.heap.size, 0, none⟩) 0 (len + 3)) (w.alloc (.cells Z 29)) := fun w => by
    have := hmk0 w; rw [show ((len + 3 : Nat) : Int) = (len : Int) + 3 by omega] at this; exact this
  have S0 : Sl (w.alloc (.cells Z 29)) 29 1 (.slice (some ⟨w.heap.size, 0, none⟩) 0 (len + 3)) 0 [] := Sl.room _ 29 Z (len + 3) _ rfl hZ (by simp only [maxLen]; omega)
  have k0 : Keep [] w (w.alloc (.cells Z 29)) := (Keep.refl [] w).alloc _
  have g0 : Gath w.heap.size (w.alloc (.cells Z 29)) (some ⟨w.heap.size, 0, none⟩) 0 (len + 3) [] :=
    ⟨S0, by simp, by simp, by simp, by simp, by intro b hb; simp [blks, Value.ownBlock] at hb; omega⟩
  have HL := Lib.hid hx.hlen
  obtain ⟨base, hbase⟩ : ∃ G, w.heap.size = G := ⟨_, rfl⟩
  obtain ⟨w0, hw0⟩ : ∃ w0, w.alloc (.cells Z 29) = w0 := ⟨_, rfl⟩
  have HB := Lib.hid hbase
  rw [hbase] at g0 ⊢
  rw [hw0] at g0 k0
  clear hmk0 hZ S0
  go_enter Try.func14, Try.ntmps14
  go_wp2_with fail
  clear hmk hbase hw0
  go_loopw [3, 4] (fun v3 v4 wr => ∃ (k : Nat) (a' : Option Addr) (c' : Nat) (vs : List Value), k ≤ len ∧ v4 = .int .i64 (k : Nat) ∧ v3 = .slice a' k c' ∧ Gath base wr a' k c' vs ∧ RoomyAt wr k vs xss ∧ Keep [] w wr) (fun _ v4 _ => len - (intOf v4).toNat)
  case atStart => exact ⟨0, _, _, [], by omega, rfl, rfl, g0, fun i x hi => by omega, k0⟩
  case round =>
    clear g0 k0
    obtain ⟨k, a', c', vs, hk, rfl, rfl, hG, hR, hkw⟩ := hrel
    by_cases hlt : k < len
    · obtain ⟨x, b, off, ai, li, ci, hc, rfl, d0, hin⟩ := (hx.keep hkw).at hlt
      have hl2 := hin.hlen
      have hle : li ≤ 3000000 := by
        have h1 := totR_take hc
        have h2 := totR_le xss (k + 1)
        omega
      have C1 := Lib.hid (roomyRow_any ai li ci x wr hin hle)
      have HC := Lib.hid hc
      have HX := Lib.hid hl2
      clear hc hl2
      go_wp2_with (first
        | (go_at_call 28; refine C1.out.mono ?_; rintro e w1 ⟨a1, c1, rfl, hr1, hf1, hk1⟩; have hS1 := hG.own.keep hk1 (by simp))
        | (at_builtin; go_must (refine wpList_append1 w1 rfl (.tmp 17) (.tmp 23) 22 rfl 29 (.slice none 0 0) 24 Try.underlying22 info29 rfl (.slice a1 li c1) rfl (.slice a' k c') k vs rfl hS1 rfl (by simp only [maxLen]; omega) (by omega) ?_; intro a2 c2 w6 hs6 hk6 hf6))
        | fail)
      have hlt1 : ∀ b ∈ blks (.slice a1 li c1), b < w1.heap.size := fun b hb => Sl.lt hr1 b (by rw [blks_len a1 _ li]; exact hb)
      have hG6 := hG.add (v := .slice a1 li c1) (by rw [← HB.out]; exact hkw.size) hf1.out hlt1 hk1 hs6 hk6 hf6
      have hR1 := hR.keep hk1 (by simp)
      have hS6 : ∀ v ∈ vs ++ [Value.slice a1 li c1], ∀ b ∈ blks v, b ∉ blks (.slice a' k c') := by
        intro v hv b hb hb'
        rcases List.mem_append.1 hv with h1 | h1
        · exact hG.out v h1 b hb hb'
        · simp only [List.mem_singleton] at h1; subst h1
          have := hf1.out b hb; have := hG.own.lt b hb'; omega
      have hR6 : RoomyAt w6 (k + 1) (vs ++ [.slice a1 li c1]) xss := by
        have h1 := RoomyAt.add hR1 hG.len HC.out (a := a1) (c := c1) (by rw [HX.out]; exact hr1)
        rw [HX.out] at h1
        exact h1.keep hk6 hS6
      exact ⟨⟨k + 1, a2, c2, _, by omega, by go_num, rfl, hG6, hR6, (hkw.trans' hk1).trans hk6 (fun b hb => Or.inr (by have := hG.since' b hb; have := HB.out; omega))⟩, by simp [intOf]; omega⟩
    · obtain rfl : k = len := by omega
      go_wp2_with fail
      go_loopw [3, 6] (fun v3 v6 wr => ∃ (m : Nat) (a' : Option Addr) (c' : Nat) (vs : List Value), m ≤ 3 ∧ v6 = .int .i64 (m : Nat) ∧ v3 = .slice a' (k + m) c' ∧ Gath base wr a' (k + m) c' vs ∧ RoomyAt wr k vs xss ∧ MarksAt wr k vs m ∧ Keep [] w wr) (fun _ v6 _ => 3 - (intOf v6).toNat)
      case atStart => exact ⟨0, a', c', vs, by omega, rfl, rfl, hG, hR, fun j hj => by omega, hkw⟩
      case round =>
        clear hG hR hkw
        obtain ⟨m, a', c', vs, hm, rfl, rfl, hG, hR, hM, hkw⟩ := hrel
        by_cases hlt : m < 3
        · have hk1 : Keep [] wr (wr.alloc (.cells #[.int .u8 99] 5)) := (Keep.refl [] wr).alloc _
          have hS1 := hG.own.keep hk1 (by simp)
          have hr1 : Sl (wr.alloc (.cells #[.int .u8 99] 5)) 5 1 (.slice (some ⟨wr.heap.size, 0, none⟩) 1 1) 1 [.int .u8 99] := Sl.made wr 5 1 #[.int .u8 99] 1 _ rfl rfl (by simp [maxLen])
          go_wp2_with (first
            | (at_builtin; go_must (refine wpList_append1 (wr.alloc (.cells #[.int .u8 99] 5)) rfl (.tmp 31) (.tmp 33) 22 rfl 29 (.slice none 0 0) 24 Try.underlying22 info29 rfl (.slice (some ⟨wr.heap.size, 0, none⟩) 1 1) rfl (.slice a' (k + m) c') (k + m) vs rfl hS1 (by show Value.slice (some ⟨wr.heap.size + 1, 0, none⟩) 1 1 = _; simp) (by simp only [maxLen]; omega) (by omega) ?_; intro a2 c2 w6 hs6 hk6 hf6))
            | fail)
          have hge : ∀ b ∈ blks (.slice (some ⟨wr.heap.size, 0, none⟩) 1 1), wr.heap.size ≤ b := by intro b hb; simp [blks, Value.ownBlock] at hb; omega
          have hG6 := hG.add (v := .slice (some ⟨wr.heap.size, 0, none⟩) 1 1) (by rw [← HB.out]; exact hkw.size) hge hr1.lt hk1 hs6 hk6 hf6
          have hS6 : ∀ v ∈ vs ++ [Value.slice (some ⟨wr.heap.size, 0, none⟩) 1 1], ∀ b ∈ blks v, b ∉ blks (.slice a' (k + m) c') := by
            intro v hv b hb hb'
            rcases List.mem_append.1 hv with h1 | h1
            · exact hG.out v h1 b hb hb'
            · simp only [List.mem_singleton] at h1; subst h1
              have := hge b hb; have := hG.own.lt b hb'; omega
          have hR6 := ((hR.keep hk1 (by simp)).app (by have := hG.len; omega) (.slice (some ⟨wr.heap.size, 0, none⟩) 1 1)).keep hk6 hS6
          have hM6 := ((hM.keep hk1 (by simp)).add hG.len hr1).keep hk6 hS6
          exact ⟨⟨m + 1, a2, c2, _, by omega, by go_num, rfl, hG6, hR6, hM6, (hkw.trans' hk1).trans hk6 (fun b hb => Or.inr (by have := hG.since' b hb; have := HB.out; omega))⟩, by simp [intOf]; omega⟩
        · obtain rfl : m = 3 := by omega
          obtain ⟨g, off, rfl⟩ := hG.some (by omega)
          have hle : k + 3 ≤ c' := (Sl.use hG.own).2.2.2.1
          have hmx : c' ≤ maxLen := (Sl.use hG.own).2.2.2.2
          simp only [maxLen] at hmx
          go_wp2_with fail
          go_returns
          exact ⟨_, c', rfl, ⟨vs, hG, hR, hM⟩, hkw⟩
end Go.Proofs.Ytlpinbkgbnbkhaa

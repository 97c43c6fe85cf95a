/- CodeTwo: two Writers in turns. -/
import Derived.Test.YtkhplfgehcljmaaZ
import Derived.Deep.MidRow
set_option linter.unusedVariables false
set_option linter.unusedSimpArgs false
namespace Go.Proofs.Ytkhplfgehcljmaa
open Go.RowKit

/-- A whole struct into the block that was made last. -/
theorem wpList_store_new {P : Program} {ops : Array Oper} {rest : List Oper} {op : Oper} {a : Act} {w : World} {Q : Exit → Act → World → Prop} (hgd : op.guard = none) (ty : TypeId) (x y : Operand) (ho : op.op = .store ty x y)
    (c c' : Array Value) (hx : a.eval x = .pointer (some ⟨w.heap.size, 0, none⟩)) (hy : a.eval y = .agg c')
    (hi : (P.info? ty).map (·.size) = some c'.size) (hz : c.size = c'.size) (h1 : c'.all (·.oneCell') = true)
    (h : wpList P ops Q rest (a.put op.dst undef) (w.alloc (.cells c' ty))) : wpList P ops Q (op :: rest) a (w.alloc (.cells c ty)) :=
  wpList_plain hgd fun _ hK => by
    unfold Oper.wp execOp
    simp only [ho, hx, hy, Sem.run_bind, Sem.run_pure, Result.andThen_ok, run_storeAt_new w ty c c' hi hz h1]
    exact hK _ _ h
theorem wpList_store_last {P : Program} {ops : Array Oper} {rest : List Oper} {op : Oper} {a : Act} {w : World} {Q : Exit → Act → World → Prop} (hgd : op.guard = none) (ty : TypeId) (x y : Operand) (ho : op.op = .store ty x y)
    (b : Nat) (c c' : Array Value) (hx : a.eval x = .pointer (some ⟨b, 0, none⟩)) (hb : b = w.heap.size) (hy : a.eval y = .agg c')
    (hi : (P.info? ty).map (·.size) = some c'.size) (hz : c.size = c'.size) (h1 : c'.all (·.oneCell') = true)
    (h : wpList P ops Q rest (a.put op.dst undef) (w.alloc (.cells c' ty))) : wpList P ops Q (op :: rest) a (w.alloc (.cells c ty)) := by
  subst hb; exact wpList_store_new hgd ty x y ho c c' hx hy hi hz h1 h
theorem size46 : (Try.prog.info? 46).map (·.size) = some 4 := by kernel_rfl
/-- The cells of a call. -/
abbrev clA (c : Cl) (a : Option Addr) (l cap : Nat) : Array Value := #[.int .i64 c.k, .int .i64 c.v, .int .i64 c.u, .slice a l cap]

theorem Pair.lt {w wr : World} {P X : Nat} {S U : List Nat} {bad : Bool} {d : List UInt8} (h : Pair w wr P X S U bad d) : ∀ b ∈ S ++ U, b < wr.heap.size := fun b hb => by
  rcases List.mem_append.1 hb with h1 | h1
  · exact h.mine.lt b h1
  · exact h.ref.lt b h1
theorem Pair.since {w wr : World} {P X : Nat} {S U : List Nat} {bad : Bool} {d : List UInt8} (h : Pair w wr P X S U bad d) : Since w (S ++ U) := fun b hb => by
  rcases List.mem_append.1 hb with h1 | h1
  · exact h.sP b h1
  · exact h.sX b h1
theorem Dj.left {S U T : List Nat} (h : Dj (S ++ U) T) : Dj S T := fun b hb => h b (by simp [hb])
theorem Dj.right {S U T : List Nat} (h : Dj (S ++ U) T) : Dj U T := fun b hb => h b (by simp [hb])
theorem Dj.app {S U T : List Nat} (h : Dj S T) (h' : Dj U T) : Dj (S ++ U) T := fun b hb => by
  rcases List.mem_append.1 hb with h1 | h1
  · exact h b h1
  · exact h' b h1
theorem Fr.app {w : World} {S S' U U' : List Nat} (h : Fr w S S') (h' : Fr w U U') : Fr w (S ++ U) (S' ++ U') := fun b hb => by
  rcases List.mem_append.1 hb with h1 | h1
  · rcases h b h1 with h2 | h2
    · exact Or.inl (by simp [h2])
    · exact Or.inr h2
  · rcases h' b h1 with h2 | h2
    · exact Or.inl (by simp [h2])
    · exact Or.inr h2
/-- put, then write, of one pair: what is left. -/
theorem Pair.step {w w2 w3 w4 : World} {P X D : Nat} {S U T U3 S4 T4 : List Nat} {bad bad' : Bool} {d d' : List UInt8} (h : Pair w w2 P X S U bad d) (hD : DkAt w2 D T) (hT : Since w T) (hdj : Dj (S ++ U) T) (hk : Keep [] w w2)
    (hX3 : WAt w3 X U3 bad' d') (hfU : Fr w2 U U3) (hk3 : Keep U w2 w3) (hW4 : WrAt w4 P S4 bad' d') (hD4 : DkAt w4 D T4) (hfS : Fr w3 S S4) (hfT : Fr w3 T T4) (hdj4 : Dj S4 T4) (hk4 : Keep (S ++ T) w3 w4) :
    Pair w w4 P X S4 U3 bad' d' ∧ Since w T4 ∧ Dj (S4 ++ U3) T4 ∧ Keep [] w w4 ∧ Fr w2 (S ++ U) (S4 ++ U3) ∧ Fr w2 T T4 ∧ Keep ((S ++ U) ++ T) w2 w4 := by
  have kA3 : Keep [] w w3 := h.sX.keep hk hk3
  have sU3 : Since w U3 := h.sX.fr hfU hk.size
  have djU3S : Dj U3 S := h.dj.fr hfU h.mine.lt
  have djU3T : Dj U3 T := hdj.right.fr hfU hD.lt
  have kA4 : Keep [] w w4 := kA3.trans hk4 (fun b hb => by
    rcases List.mem_append.1 hb with h1 | h1
    · exact Or.inr (h.sP b h1)
    · exact Or.inr (hT b h1))
  have hX4 := hX3.keep hk4 (fun b hb h1 => by
    rcases List.mem_append.1 h1 with h1 | h1
    · exact djU3S b hb h1
    · exact djU3T b hb h1)
  have djU4S : Dj U3 S4 := (djU3S.symm.fr hfS hX3.lt).symm
  have djU4T : Dj U3 T4 := (djU3T.symm.fr hfT hX3.lt).symm
  refine ⟨⟨hW4, hX4, h.sP.fr hfS kA3.size, sU3, djU4S⟩, hT.fr hfT kA3.size, hdj4.app djU4T, kA4, (hfS.le hk3.size).app hfU, hfT.le hk3.size, ?_⟩
  refine (hk3.mono (T := (S ++ U) ++ T) (fun b hb => Or.inl (by simp [hb]))).trans hk4 (fun b hb => ?_)
  rcases List.mem_append.1 hb with h1 | h1
  · exact Or.inl (by simp [h1])
  · exact Or.inl (by simp [h1])

set_option maxHeartbeats 4000000 in
set_option maxRecDepth 100000 in
theorem codeTwo_walk (a : Option Addr) (len cap : Nat) (cs : List Cl) (w : World) (hx : InCalls w a len cap cs) :
    Calls Try.prog 5 #[.slice a len cap] w fun e w' => e = .returned (.bool true) ∧ Keep [] w w' := by
  have hlong := long_any a len cap cs w hx
  cases hb : longB cs with
  | true =>
    rw [hb] at hlong
    go_enter Try.func5, Try.ntmps5
    go_wp2_with (first | (go_at_call 19; refine hlong.mono ?_; rintro e w1 ⟨rfl, hw⟩; have hw' := hw.symm; subst hw') | fail)
    go_returns
    exact ⟨rfl, Keep.refl _ _⟩
  | false =>
    rw [hb] at hlong
    have hcl : len ≤ 200 ∧ total cs ≤ 200000 := by
      have := hx.hlen
      simp [longB] at hb; omega
    obtain ⟨hlen2, htot⟩ := hcl
    clear hb
    obtain ⟨D, hD⟩ : ∃ D, w.heap.size = D := ⟨_, rfl⟩
    obtain ⟨w0, hw0⟩ : ∃ w0, w.alloc (.cells #[.slice none 0 0] 26) = w0 := ⟨_, rfl⟩
    have hD0 : DkAt w0 D [D, D] := by rw [← hw0, ← hD]; exact DkAt.new w
    have k0 : Keep [] w w0 := by rw [← hw0]; exact (Keep.refl _ _).alloc _
    have hDlt := hD0.lt D hD0.self
    obtain ⟨P, hP⟩ : ∃ P, w0.heap.size = P := ⟨_, rfl⟩
    obtain ⟨w1, hw1⟩ : ∃ w1, w0.alloc (.cells #[.int .i64 0, .int .i64 0, .slice none 0 0] 40) = w1 := ⟨_, rfl⟩
    have hW1 : WrAt w1 P [P] false [] := by rw [← hw1, ← hP]; exact WrAt.new w0
    have k1 : Keep [] w0 w1 := by rw [← hw1]; exact (Keep.refl _ _).alloc _
    have hPlt := hW1.lt P hW1.self
    obtain ⟨P', hP'⟩ : ∃ P', w1.heap.size = P' := ⟨_, rfl⟩
    obtain ⟨w1', hw1'⟩ : ∃ w1', w1.alloc (.cells #[.int .i64 0, .int .i64 0, .slice none 0 0] 40) = w1' := ⟨_, rfl⟩
    have hW1' : WrAt w1' P' [P'] false [] := by rw [← hw1', ← hP']; exact WrAt.new w1
    have k1' : Keep [] w1 w1' := by rw [← hw1']; exact (Keep.refl _ _).alloc _
    have hPlt' := hW1'.lt P' hW1'.self
    obtain ⟨X, hX⟩ : ∃ X, w1'.heap.size = X := ⟨_, rfl⟩
    obtain ⟨w2, hw2⟩ : ∃ w2, w1'.alloc (.cells #[.slice none 0 0, .bool false] 43) = w2 := ⟨_, rfl⟩
    have hX2 : WAt w2 X [X] false [] := by rw [← hw2, ← hX]; exact WAt.new w1'
    have k2 : Keep [] w1' w2 := by rw [← hw2]; exact (Keep.refl _ _).alloc _
    have hXlt := hX2.lt X hX2.self
    obtain ⟨X', hX'⟩ : ∃ X', w2.heap.size = X' := ⟨_, rfl⟩
    obtain ⟨w2', hw2'⟩ : ∃ w2', w2.alloc (.cells #[.slice none 0 0, .bool false] 43) = w2' := ⟨_, rfl⟩
    have hX2' : WAt w2' X' [X'] false [] := by rw [← hw2', ← hX']; exact WAt.new w2
    have k2' : Keep [] w2 w2' := by rw [← hw2']; exact (Keep.refl _ _).alloc _
    have kA : Keep [] w w2' := (((k0.trans' k1).trans' k1').trans' k2).trans' k2'
    have s0 := k0.size
    have s1 := k1.size
    have s1' := k1'.size
    have s2 := k2.size
    have hp : Pair w w2' P X [P] [X] false [] := ⟨((hW1.keep k1' (by simp)).keep k2 (by simp)).keep k2' (by simp), hX2.keep k2' (by simp), by intro b hb; simp at hb; omega, by intro b hb; simp at hb; omega, by intro b hb; simp at hb ⊢; omega⟩
    have hp' : Pair w w2' P' X' [P'] [X'] false [] := ⟨(hW1'.keep k2 (by simp)).keep k2' (by simp), hX2', by intro b hb; simp at hb; omega, by intro b hb; simp at hb; omega, by intro b hb; simp at hb ⊢; omega⟩
    have hd2 : DkAt w2' D [D, D] := (((hD0.keep k1 (by simp)).keep k1' (by simp)).keep k2 (by simp)).keep k2' (by simp)
    have sD : Since w [D, D] := by intro b hb; simp at hb; omega
    have dj1 : Dj ([P] ++ [X]) [D, D] := by intro b hb; simp at hb ⊢; omega
    have dj2 : Dj ([P'] ++ [X']) [D, D] := by intro b hb; simp at hb ⊢; omega
    have dj3 : Dj ([P] ++ [X]) ([P'] ++ [X']) := by intro b hb; simp at hb ⊢; omega
    go_enter Try.func5, Try.ntmps5
    go_upto_region 8 with (first | (go_at_call 19; refine hlong.mono ?_; rintro e w9 ⟨rfl, hw⟩; have hw' := hw.symm; subst hw') | fail)
    clear hw0 hw1 hw2 hw1' hw2' hD hP hX hP' hX' hD0 hW1 hX2 hW1' hX2' k0 k1 k2 k1' k2' hDlt hPlt hPlt' hXlt hlong hw s0 s1 s1' s2
    go_wp2_with fail
    go_loopw [8] (fun v8 wr => ∃ i T S U bad d S' U' bad' d', i ≤ len ∧ v8 = .int .i64 (i : Nat) ∧ DkAt wr D T ∧ Pair w wr P X S U bad d ∧ Pair w wr P' X' S' U' bad' d' ∧ Since w T ∧ Dj (S ++ U) T ∧ Dj (S' ++ U') T ∧ Dj (S ++ U) (S' ++ U') ∧ Keep [] w wr ∧ d.length ≤ total (cs.take i) + 5 * i ∧ d'.length ≤ total (cs.take i) + 5 * i) (fun v8 _ => len - (intOf v8).toNat)
    case atStart => exact ⟨0, [D, D], [P], [X], false, [], [P'], [X'], false, [], by omega, rfl, hd2, hp, hp', sD, dj1, dj2, dj3, kA, by simp, by simp⟩
    case round =>
      clear hd2 hp hp' sD dj1 dj2 dj3 kA
      obtain ⟨i, T, S, U, bad, d, S', U', bad', d', hi, rfl, hDk, hpr, hpr', hT, hT1, hT2, hT3, hkw, hdl, hdl'⟩ := hrel
      by_cases hlt : i < len
      · obtain ⟨c, b, off, ai, li, ci, hc, rfl, d0, d1, d2, d3, ⟨hwk, hwv, hwu⟩, hin⟩ := hx.at hlt
        have e0 := hkw.cell d0 (by simp)
        have e1 := hkw.cell d1 (by simp)
        have e2 := hkw.cell d2 (by simp)
        have e3 := hkw.cell d3 (by simp)
        have hli := hin.hlen
        have ht1 := total_take hc
        have ht2 := total_le cs (i + 1)
        have hbd : d.length ≤ 201000 := by omega
        have hbd' : d'.length ≤ 201000 := by omega
        have hlb : li ≤ 200000 := by omega
        have hnl := put_len bad d c (by omega)
        have hnl' := put_len bad' d' c (by omega)
        have A1 : Hid ((putD (bad || cBad c) d (cBytes c)).length ≤ total (cs.take (i + 1)) + 5 * (i + 1)) := by show _ ≤ _; omega
        have A2 : Hid ((putD (bad' || cBad c) d' (cBytes c)).length ≤ total (cs.take (i + 1)) + 5 * (i + 1)) := by show _ ≤ _; omega
        have A3 : Hid (d.length ≤ total (cs.take (i + 1)) + 5 * (i + 1)) := by show _ ≤ _; omega
        have A4 : Hid (d'.length ≤ total (cs.take (i + 1)) + 5 * (i + 1)) := by show _ ≤ _; omega
        have A5 : (putD (bad || cBad c) d (cBytes c)).length ≤ 402000 := by omega
        have A6 : (putD (bad' || cBad c) d' (cBytes c)).length ≤ 402000 := by omega
        clear hc hli ht1 ht2 hnl hnl' hdl hdl'
        go_upto_region 12 with (first
          | (refine wpList_store_last rfl 46 (.tmp 9) (.tmp 32) rfl _ _ (clA c ai li ci) rfl (by simp) rfl size46 rfl rfl ?_)
          | fail)
        clear e0 e1 e2 e3 d0 d1 d2 d3
        obtain ⟨B, hB⟩ : ∃ B, wr.heap.size = B := ⟨_, rfl⟩
        have hC := Blk.new wr (clA c ai li ci) 46
        have kC : Keep [] wr (wr.alloc (.cells (clA c ai li ci) 46)) := (Keep.refl _ _).alloc _
        rw [hB] at hC ⊢
        have hBS : B ∉ S ++ U ∧ B ∉ S' ++ U' ∧ B ∉ T := by
          refine ⟨fun h => ?_, fun h => ?_, fun h => ?_⟩
          · have := hpr.lt B h; omega
          · have := hpr'.lt B h; omega
          · have := hDk.lt B h; omega
        clear hB
        generalize wr.alloc (.cells (clA c ai li ci) 46) = w2 at hC kC ⊢
        have kA2 := hkw.trans' kC
        have hp2 := hpr.keep kC (by intro b _; simp) (by intro b _; simp)
        have hp2' := hpr'.keep kC (by intro b _; simp) (by intro b _; simp)
        have hD2 := hDk.keep kC (by simp)
        clear kC hpr hpr' hDk hkw
        have c0 : w2.cell? ⟨B, 0, none⟩ = some (.int .i64 c.k) := hC.cell (i := 0) rfl
        have c1 : w2.cell? ⟨B, 1, none⟩ = some (.int .i64 c.v) := hC.cell (i := 1) rfl
        have c2 : w2.cell? ⟨B, 2, none⟩ = some (.int .i64 c.u) := hC.cell (i := 2) rfl
        have c3 : w2.cell? ⟨B, 3, none⟩ = some (.slice ai li ci) := hC.cell (i := 3) rfl
        by_cases hev : i % 2 = 0
        · have hev2 : (i : Int) % 2 = 0 := by omega
          have C1 := Lib.hid (putDoc_any X U bad d c ai li ci w2 hp2.ref (hin.keep kA2 (by simp)) (by omega) (by omega))
          go_upto_region 15 with (first
            | (go_at_call 20; refine C1.out.mono ?_; rintro e w3 ⟨rfl, ⟨U3, hX3, hfU⟩, hk3⟩)
            | fail)
          have kA3 : Keep [] w w3 := hp2.sX.keep kA2 hk3
          have hW3 := hp2.mine.keep hk3 hp2.dj.symm
          have hD3 := hD2.keep hk3 hT1.right.symm
          have hC3 := hC.keep hk3 (fun h => hBS.1 (by simp [h]))
          have C2 := Lib.hid (write_any P S D T bad d c ai li ci w3 hW3 hD3 (hin.keep kA3 (by simp)) hT1.left (hin.since hp2.sP) (hin.since hT) hwv (by omega) (by omega))
          clear c0 c1 c2 c3 C1
          have c0 : w3.cell? ⟨B, 0, none⟩ = some (.int .i64 c.k) := hC3.cell (i := 0) rfl
          have c1 : w3.cell? ⟨B, 1, none⟩ = some (.int .i64 c.v) := hC3.cell (i := 1) rfl
          have c2 : w3.cell? ⟨B, 2, none⟩ = some (.int .i64 c.u) := hC3.cell (i := 2) rfl
          have c3 : w3.cell? ⟨B, 3, none⟩ = some (.slice ai li ci) := hC3.cell (i := 3) rfl
          go_upto_region 18 with (first
            | (go_at_call 21; refine C2.out.mono ?_; rintro e w4 ⟨rfl, S4, T4, hW4, hD4, hfS, hfT, hdj4, hk4⟩)
            | fail)
          obtain ⟨q1, q2, q3, q4, q5, q6, q7⟩ := hp2.step hD2 hT hT1 kA2 hX3 hfU hk3 hW4 hD4 hfS hfT hdj4 hk4
          have hp4' := hp2'.keep q7 (fun b hb h => by
              rcases List.mem_append.1 h with h | h
              · exact hT3.symm b (by simp [hb]) h
              · exact hT2 b (by simp [hb]) h) (fun b hb h => by
              rcases List.mem_append.1 h with h | h
              · exact hT3.symm b (by simp [hb]) h
              · exact hT2 b (by simp [hb]) h)
          have z3 : Dj (S4 ++ U3) (S' ++ U') := hT3.fr q5 hp2'.lt
          have z2 : Dj (S' ++ U') T4 := (Dj.fr hT2.symm q6 hp2'.lt).symm
          have E1 := Lib.hid (wrote_any P X S4 U3 _ _ w4 q1.mine q1.ref (by omega))
          have E2 := Lib.hid (fun W (k : Keep [] w4 W) => wrote_any P' X' S' U' bad' d' W (hp4'.mine.keep k (by simp)) (hp4'.ref.keep k (by simp)) (by omega))
          clear c0 c1 c2 c3 C2 hW3 hD3 hk3 hk4 hfU hfS hfT hX3 hW4 hdj4 hp2 hp2' hC3 hC
          go_wp2_with fail
          refine E1.out.mono ?_
          rintro e w5 ⟨rfl, hk5⟩
          go_wp2_with fail
          refine (E2.out _ hk5).mono ?_
          rintro e w6 ⟨rfl, hk6⟩
          go_wp2_with fail
          have kz := hk5.trans' hk6
          refine ⟨⟨i + 1, T4, S4, U3, _, _, S', U', bad', d', by omega, by go_num, hD4.keep kz (by simp), q1.keep kz (by intro b _; simp) (by intro b _; simp), hp4'.keep kz (by intro b _; simp) (by intro b _; simp), q2, q3, z2, z3, q4.trans' kz, A1.out, A4.out⟩, by simp [intOf]; omega⟩
        · have hev2 : ((i : Int) % 2 == 0) = false := by simp; omega
          have C1 := Lib.hid (putDoc_any X' U' bad' d' c ai li ci w2 hp2'.ref (hin.keep kA2 (by simp)) (by omega) (by omega))
          go_upto_region 17 with (first
            | (go_at_call 20; refine C1.out.mono ?_; rintro e w3 ⟨rfl, ⟨U3, hX3, hfU⟩, hk3⟩)
            | fail)
          have kA3 : Keep [] w w3 := hp2'.sX.keep kA2 hk3
          have hW3 := hp2'.mine.keep hk3 hp2'.dj.symm
          have hD3 := hD2.keep hk3 hT2.right.symm
          have hC3 := hC.keep hk3 (fun h => hBS.2.1 (by simp [h]))
          have C2 := Lib.hid (write_any P' S' D T bad' d' c ai li ci w3 hW3 hD3 (hin.keep kA3 (by simp)) hT2.left (hin.since hp2'.sP) (hin.since hT) hwv (by omega) (by omega))
          clear c0 c1 c2 c3 C1
          have c0 : w3.cell? ⟨B, 0, none⟩ = some (.int .i64 c.k) := hC3.cell (i := 0) rfl
          have c1 : w3.cell? ⟨B, 1, none⟩ = some (.int .i64 c.v) := hC3.cell (i := 1) rfl
          have c2 : w3.cell? ⟨B, 2, none⟩ = some (.int .i64 c.u) := hC3.cell (i := 2) rfl
          have c3 : w3.cell? ⟨B, 3, none⟩ = some (.slice ai li ci) := hC3.cell (i := 3) rfl
          go_upto_region 18 with (first
            | (go_at_call 21; refine C2.out.mono ?_; rintro e w4 ⟨rfl, S4, T4, hW4, hD4, hfS, hfT, hdj4, hk4⟩)
            | fail)
          obtain ⟨q1, q2, q3, q4, q5, q6, q7⟩ := hp2'.step hD2 hT hT2 kA2 hX3 hfU hk3 hW4 hD4 hfS hfT hdj4 hk4
          have hp4 := hp2.keep q7 (fun b hb h => by
              rcases List.mem_append.1 h with h | h
              · exact hT3 b (by simp [hb]) h
              · exact hT1 b (by simp [hb]) h) (fun b hb h => by
              rcases List.mem_append.1 h with h | h
              · exact hT3 b (by simp [hb]) h
              · exact hT1 b (by simp [hb]) h)
          have z3 : Dj (S ++ U) (S4 ++ U3) := (hT3.symm.fr q5 hp2.lt).symm
          have z1 : Dj (S ++ U) T4 := (Dj.fr hT1.symm q6 hp2.lt).symm
          have E1 := Lib.hid (wrote_any P X S U _ _ w4 hp4.mine hp4.ref (by omega))
          have E2 := Lib.hid (fun W (k : Keep [] w4 W) => wrote_any P' X' S4 U3 _ _ W (q1.mine.keep k (by simp)) (q1.ref.keep k (by simp)) (by omega))
          clear c0 c1 c2 c3 C2 hW3 hD3 hk3 hk4 hfU hfS hfT hX3 hW4 hdj4 hp2 hp2' hC3 hC
          go_wp2_with fail
          refine E1.out.mono ?_
          rintro e w5 ⟨rfl, hk5⟩
          go_wp2_with fail
          refine (E2.out _ hk5).mono ?_
          rintro e w6 ⟨rfl, hk6⟩
          go_wp2_with fail
          have kz := hk5.trans' hk6
          refine ⟨⟨i + 1, T4, S, U, bad, d, S4, U3, _, _, by omega, by go_num, hD4.keep kz (by simp), hp4.keep kz (by intro b _; simp) (by intro b _; simp), q1.keep kz (by intro b _; simp) (by intro b _; simp), q2, z1, q3, z3, q4.trans' kz, A3.out, A2.out⟩, by simp [intOf]; omega⟩
      · go_wp2_with (first
          | (go_at_call 18; refine (known_any _).mono ?_; rintro e w9 ⟨rfl, hk9⟩)
          | fail)
        go_returns
        exact ⟨rfl, hkw.trans' hk9⟩
end Go.Proofs.Ytkhplfgehcljmaa

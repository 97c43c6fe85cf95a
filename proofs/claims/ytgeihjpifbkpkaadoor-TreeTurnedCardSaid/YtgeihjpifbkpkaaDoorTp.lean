/- TreeParses: its walk. -/
import Derived.Test.YtgeihjpifbkpkaaDoorKn
import Derived.Test.YtgeihjpifbkpkaaDoorRb
import Derived.Test.YtgeihjpifbkpkaaDoorLk
set_option linter.unusedVariables false
set_option linter.unusedSimpArgs false
namespace Go.Proofs.YtgeihjpifbkpkaaDoor
open Go.RowKit

theorem Sl.put {w : World} {e : TypeId} {g off n c k : Nat} {vs : List Value} (h : Sl w e 1 (.slice (some ⟨g, off, none⟩) n c) n vs) (hk : k < n) (v : Value) :
    Sl (w.setCell ⟨g, off + k, none⟩ v) e 1 (.slice (some ⟨g, off, none⟩) n c) n (vs.set k v) ∧ Keep [g] w (w.setCell ⟨g, off + k, none⟩ v) ∧ w.frozen? ⟨g, off + k, none⟩ = false ∧ w.cell? ⟨g, off + k, none⟩ = vs[k]? := by
  have hl := h.1
  rcases h.2 with ⟨h1, h2⟩ | ⟨g', cap, pre, post, h1, hb, r⟩
  · cases h1
  · simp only [Value.slice.injEq, Option.some.injEq, Addr.mk.injEq, and_true, true_and] at h1
    obtain ⟨⟨rfl, rfl⟩, rfl⟩ := h1
    have hs := hb.set (pre.length + k) v
    have e : (pre ++ (vs ++ post)).toArray.setIfInBounds (pre.length + k) v = (pre ++ (vs.set k v ++ post)).toArray := by
      apply Array.ext'
      rw [Array.toList_setIfInBounds, List.toList_toArray, List.set_append_right _ _ (by omega), Nat.add_sub_cancel_left, List.set_append_left _ _ (by omega)]
    rw [e] at hs
    refine ⟨⟨by simpa using hl, Or.inr ⟨g, c, pre, post, rfl, hs, by simpa using r⟩⟩, Keep.set_one w ⟨g, pre.length + k, none⟩ v, hb.free, ?_⟩
    have hv : k < vs.length := by omega
    rw [List.getElem?_eq_getElem hv]
    refine hb.cell ?_
    rw [List.getElem?_toArray, List.getElem?_append_right (by omega), Nat.add_sub_cancel_left, List.getElem?_append_left hv, List.getElem?_eq_getElem hv]
theorem bs_set (xs : List UInt8) (k : Nat) (y : UInt8) : (bs xs).set k (B8 y) = bs (xs.set k y) := by rw [bs, bs, List.map_set]
theorem RoomB.put {w : World} {g off n c k : Nat} {xs : List UInt8} (h : RoomB w (some ⟨g, off, none⟩) n c xs) (hk : k < n) (y : UInt8) :
    RoomB (w.setCell ⟨g, off + k, none⟩ (B8 y)) (some ⟨g, off, none⟩) n c (xs.set k y) ∧ Keep [g] w (w.setCell ⟨g, off + k, none⟩ (B8 y)) ∧ w.frozen? ⟨g, off + k, none⟩ = false ∧ (∃ z, w.cell? ⟨g, off + k, none⟩ = some z) := by
  obtain ⟨h1, h2, h3, h4⟩ := h.2.2.put (k := k) (by omega) (B8 y)
  rw [bs_set, List.set_append_left _ _ (by rw [h.1]; exact hk)] at h1
  refine ⟨⟨by rw [List.length_set]; exact h.1, h.2.1, h1⟩, h2, h3, ?_⟩
  have hv : k < (bs (xs ++ marksB 40)).length := by rw [bs_length, List.length_append, h.1]; omega
  rw [List.getElem?_eq_getElem hv] at h4
  exact ⟨_, h4⟩
theorem parT_ok (d : List UInt8) : (parT d).length ≤ 32 ∧ ∀ x ∈ parT d, x.name.size ≤ 9223372036854775807 := by
  unfold parT
  rw [par_ref]
  cases h : refO d with
  | none => simp
  | some l =>
    unfold refO at h
    split at h
    · cases h
    · split at h
      · cases h
      · rename_i l' p h1
        split at h
        · simp only [Option.some.injEq] at h
          subst h
          have := rowsTo_len h1
          exact ⟨by simp only [Option.getD_some]; omega, by simpa using rowsTo_names h1⟩
        · cases h
theorem esIn_par {w : World} {a : Option Addr} {c : Nat} {d : List UInt8} (s : Sl w 37 34 (.slice a (parT d).length c) (parT d).length (cellsOf (parT d))) : EsIn w a (parT d).length c (parT d) :=
  esIn_of s rfl (by have := (parT_ok d).1; omega) (parT_ok d).2
theorem u8_xor_nat (a b : Nat) (ha : a < 256) (hb : b < 256) : bits .xor .u8 (a : Int) (b : Int) = ((a ^^^ b : Nat) : Int) := by
  have hx : a ^^^ b < 2 ^ 8 := Nat.xor_lt_two_pow (by omega) (by omega)
  have o8 : ∀ c : Nat, c < 256 → (BitVec.ofInt 8 (c : Int)).toNat = c := fun c hc => by
    rw [BitVec.ofInt_natCast, BitVec.toNat_ofNat]; exact Nat.mod_eq_of_lt (by omega)
  show IntKind.u8.wrap ((BitVec.ofInt 8 (a : Int) ^^^ BitVec.ofInt 8 (b : Int)).toNat : Int) = _
  rw [BitVec.toNat_xor, o8 a ha, o8 b hb]
  simp only [IntKind.wrap_u8]; omega
def turnB (x : UInt8) : UInt8 := x ^^^ 1
theorem turn_bits (x : UInt8) : bits .xor .u8 (x.toNat : Int) 1 = ((turnB x).toNat : Int) := by
  have := u8_xor_nat x.toNat 1 x.toNat_lt (by omega)
  rw [turnB, UInt8.toNat_xor]; exact this
theorem fr_ne {w w' : World} {b g : Nat} {v : Value} (h : Fr w' [] (blks v)) (hb : b ∈ blks v) (hg : g < w'.heap.size) : g ≠ b := by
  have := fr_old h b hb; omega
theorem rd_sl {w : World} {a : Option Addr} {n c : Nat} {vs : List Value} (h : Sl w 5 1 (.slice a n c) n vs) : Rd w a vs := h.rd

set_option maxHeartbeats 2000000 in
set_option maxRecDepth 100000 in
theorem treeParses_walk (a : Option Addr) (n c : Nat) (d : List UInt8) (w : World) (hx : InBytes w a n c d) (hT : Tabs w) :
    Calls Tryd.prog 5 #[.slice a n c] w fun e w' => e = .returned (.bool true) ∧ Keep [] w w' := by
  have hl := hx.hlen
  have hn : n ≤ 140737488351232 := by have := hx.hle; have := hx.reach; omega
  have HL := Lib.hid hl
  go_enter Tryd.func5, Tryd.ntmps5
  go_upto_region 3 with (first
    | (go_at_call 10; refine (known_any _ hT).mono ?_; rintro e w1 ⟨rfl, k1⟩)
    | fail)
  have S0 : Sl (w1.alloc (.cells #[] 5)) 5 1 (.slice (some ⟨w1.heap.size, 0, none⟩) 0 0) 0 [] := Sl.made w1 5 1 #[] 0 _ rfl rfl (by simp [maxLen])
  have kw : Keep [] w (w1.alloc (.cells #[] 5)) := k1.alloc _
  have r1 := hx.rd.keep kw (by simp)
  go_upto_region 4 with (first
    | (at_builtin; go_must (refine wpList_appendN rfl (.tmp 12) (.tmp 13) 26 rfl 5 (.int .u8 0) 1 1 Tryd.underlying26 info5 rfl (by omega) (.slice (some ⟨w1.heap.size, 0, none⟩) 0 0) 0 [] rfl S0 a n c (bs d) rfl (by rw [bs_length, HL.out, Nat.mul_one]) hx.hnil r1 (bs_one d) (by simp only [maxLen]; omega) (by omega) ?_; intro aw cw w2 hs2 hk2 hf2))
    | fail)
  have F0 : Fr w [] (blks (.slice (some ⟨w1.heap.size, 0, none⟩) 0 0)) := fun b hb => by
    have e : b = w1.heap.size := by simpa [blks, Value.ownBlock] using hb
    right; rw [e]; exact k1.size
  have kk2 : Keep [] w w2 := kw.trans hk2 (fun b hb => by rcases F0 b hb with h | h; cases h; exact Or.inr h)
  have F2 := F0.trans hf2 kw.size
  simp only [Nat.zero_add, List.nil_append] at hs2 F2
  have l2 := hs2.lt
  clear hk2 hf2 F0 S0 r1
  go_upto_region 5 with (first
    | (go_at_call 18; refine (roomy_any aw n cw d _ HL.out (by obtain ⟨_, _, e, _, _, _, _, h⟩ := hs2.form; simp only [Value.slice.injEq, true_and] at e; rw [e.1, e.2]; exact h) hs2.rd (by omega)).mono ?_; rintro e w3 ⟨ab, cb, rfl, hB, F3, k3⟩)
    | fail)
  have kk3 := kk2.trans' k3
  have hs3 := hs2.keep k3 (by simp)
  clear hs2
  go_upto_region 6 with fail
  go_loopw [5] (fun v5 wr => ∃ (i : Nat) (xs : List UInt8), i ≤ 2 ∧ v5 = .int .i64 (i : Nat) ∧ Sl wr 5 1 (.slice aw n cw) n (bs xs) ∧ RoomB wr ab n cb xs ∧ Keep [] w wr) (fun v5 _ => 2 - (intOf v5).toNat)
  case atStart => exact ⟨0, d, by omega, rfl, hs3, hB, kk3⟩
  case round =>
    clear hs3 hB kk3
    obtain ⟨i, xs, hi, rfl, sW, rB, kk⟩ := hrel
    by_cases hlt : i < 2
    · have i1 : (i : Int) < 2 := by omega
      obtain ⟨l, hpl⟩ : ∃ l, parT xs = l := ⟨_, rfl⟩
      obtain ⟨z, hz⟩ : ∃ z, parC xs = z := ⟨_, rfl⟩
      have hxl := rB.1
      have E1 := Lib.hid (fun W h t => by have := parse_any ab n cb xs W h.1 (by obtain ⟨_, _, e⟩ := h.addr; rw [e]; simp) h.rd (by omega) t; rwa [hpl, hz] at this : ∀ W, RoomB W ab n cb xs → Tabs W → Calls Tryd.prog 19 #[.slice ab n cb] W (GiveT W l z))
      have E2 := Lib.hid (fun W h => by have := refParse_any aw n cw xs W hxl (rd_sl h) (by obtain ⟨_, _, e, _, _, h, _⟩ := h.form; simp only [Value.slice.injEq, true_and] at e; rw [e.2]; exact h) (by omega); rwa [hpl, hz] at this : ∀ W, Sl W 5 1 (.slice aw n cw) n (bs xs) → Calls Tryd.prog 20 #[.slice aw n cw] W (GiveT W l z))
      have EI := Lib.hid (fun W a c s => by subst hpl; exact esIn_par s : ∀ W a c, Sl W 37 34 (.slice a l.length c) l.length (cellsOf l) → EsIn W a l.length c l)
      have AL := Lib.hid (fun W a c b d hx hy => by have := alike_any a b l.length c l.length d l l W hx hy; rwa [decide_eq_true rfl] at this : ∀ W a c b d, EsIn W a l.length c l → EsIn W b l.length d l → Calls Tryd.prog 21 #[.slice a l.length c, .slice b l.length d] W fun e w' => e = .returned (.bool true) ∧ Keep [] W w')
      have ST := Lib.hid (fun W h r => by have := stands_any ab aw n cb n cw xs xs W h hxl r; rwa [decide_eq_true rfl] at this : ∀ W, RoomB W ab n cb xs → Rd W aw (bs xs) → Calls Tryd.prog 22 #[.slice ab n cb, .slice aw n cw] W fun e w' => e = .returned (.bool true) ∧ Keep [] W w')
      have HXL := Lib.hid hxl
      clear hpl hz hxl
      go_upto_region 9 with (first
        | (go_at_call 19; refine (E1.out _ rB (hT.keep kk)).mono ?_; rintro e w4 ⟨a5, c5, rfl, s5, f5, k4⟩)
        | fail)
      have sW4 := sW.keep k4 (by simp)
      go_upto_region 10 with (first
        | (go_at_call 20; refine (E2.out _ sW4).mono ?_; rintro e w5 ⟨a6, c6, rfl, s6, f6, k5⟩)
        | fail)
      have s5b := s5.keep k5 (by simp)
      have k45 := k4.trans' k5
      have I5 := EI.out _ _ _ s5b
      have I6 := EI.out _ _ _ s6
      go_upto_region 12 with (first
        | (go_at_call 21; refine (AL.out _ _ _ _ _ I5 I6).mono ?_; rintro e w6 ⟨rfl, k6⟩; have k46 := k45.trans' k6; have rB6 := rB.keep k46 (by simp); have rW6 := (sW.keep k46 (by simp)).rd)
        | (go_at_call 22; refine (ST.out _ rB6 rW6).mono ?_; rintro e w7 ⟨rfl, k7⟩)
        | fail)
      have k47 := k46.trans' k7
      have kk7 := kk.trans' k47
      have sW7 := sW.keep k47 (by simp)
      have rB7 := rB.keep k47 (by simp)
      clear s5 s6 s5b I5 I6 rB6 rW6 sW4 f5 f6 sW rB E1 E2 EI AL ST
      by_cases h0 : n = 0
      · subst h0
        go_wp2_with fail
        exact ⟨⟨i + 1, xs, by omega, by go_num, sW7, rB7, kk7⟩, by simp [intOf]; omega⟩
      · obtain ⟨m, rfl⟩ : ∃ m, n = m + 1 := ⟨n - 1, by omega⟩
        obtain ⟨gw, ow, rfl, -⟩ := sW7.rd.at (k := 0) (by rw [bs_length, HXL.out]; omega)
        obtain ⟨gb, ob, rfl⟩ := rB7.addr
        have hgw : gw < w2.heap.size := l2 gw (by simp [blks, Value.ownBlock])
        have hgb := fr_old F3 gb (by simp [blks, Value.ownBlock])
        have hgw0 := fr_old F2 gw (by simp [blks, Value.ownBlock])
        have hgb0 : w.heap.size ≤ gb := Nat.le_trans kk2.size hgb
        obtain ⟨x, hxx⟩ : ∃ x, xs[m]? = some x := ⟨_, List.getElem?_eq_getElem (by rw [HXL.out]; omega)⟩
        obtain ⟨p1, p2, p3, p4⟩ := sW7.put (k := m) (by omega) (B8 (turnB x))
        rw [bs_set] at p1
        rw [bs, List.getElem?_map, hxx] at p4
        have p5 : w7.cell? ⟨gw, ow + m, none⟩ = some (.int .u8 (x.toNat : Nat)) := p4
        clear hxx
        clear p4
        have p4 := p5
        clear p5
        have htb := turn_bits x
        have HTB := Lib.hid (show B8 (turnB x) = .int .u8 (bits .xor .u8 (x.toNat : Int) 1) by rw [htb])
        rw [HTB.out] at p1 p2
        obtain ⟨y, hy⟩ : ∃ y, bits .xor .u8 (x.toNat : Int) 1 = y := ⟨_, rfl⟩
        rw [hy] at p1 p2 HTB
        obtain ⟨W8, hW8⟩ : ∃ W, w7.setCell ⟨gw, ow + m, none⟩ (.int .u8 y) = W := ⟨_, rfl⟩
        rw [hW8] at p1 p2
        have HW8 := Lib.hid hW8
        have rB8 := rB7.keep p2 (fun b hb => by simp [blks, Value.ownBlock] at hb; subst hb; simp only [List.mem_singleton]; omega)
        obtain ⟨q1, q2, q3, qz, q4⟩ := rB8.put (k := m) (by omega) (turnB x)
        rw [HTB.out] at q1 q2
        have sW9 := p1.keep q2 (fun b hb => by simp [blks, Value.ownBlock] at hb; subst hb; simp only [List.mem_singleton]; omega)
        have c8 : W8.cell? ⟨gw, ow + m, none⟩ = some (.int .u8 y) := by
          have h1 := p1.rd
          rcases h1 with e | ⟨b', o', e, hc⟩
          · have := congrArg List.length e
            rw [bs_length, List.length_set, HXL.out] at this; simp at this
          · obtain ⟨rfl, rfl⟩ : gw = b' ∧ ow = o' := by simpa [sAddr] using e
            refine hc m _ ?_
            rw [bs, List.getElem?_map, List.getElem?_set_self (by rw [HXL.out]; omega), Option.map_some, HTB.out]
        have kk9 := (kk7.trans p2 (fun b hb => by simp only [List.mem_singleton] at hb; subst hb; exact Or.inr hgw0)).trans q2 (fun b hb => by simp only [List.mem_singleton] at hb; subst hb; exact Or.inr hgb0)
        have HF := Lib.hid (And.intro sW9 (And.intro q1 kk9))
        have j1 : (0 : Int) < ((m + 1 : Nat) : Int) := by omega
        have j2 : IntKind.i64.wrap (((m + 1 : Nat) : Int) - 1) = (m : Nat) := by rw [IntWalk.i64_in _ (by omega)]; omega
        have j3 : (m : Int) < ((m + 1 : Nat) : Int) := by omega
        have j4 : (m : Int) + 1 - 1 = m := by omega
        have j5 : (m : Int) < (m : Int) + 1 := by omega
        have j6 : (0 : Int) < (m : Int) + 1 := by omega
        have j7 : (0 : Int) ≤ m := by omega
        clear sW7 rB7 rB8 p1 p2 q1 q2 sW9 kk9 htb hW8
        have HY := Lib.hid hy
        clear hy
        obtain ⟨X, hX⟩ : ∃ X : Nat, x.toNat = X := ⟨_, rfl⟩
        rw [hX] at p4 HY
        clear hX
        have hy := HY.out
        clear HY
        go_upto_region 13 with fail
        go_upto_region 14 with fail
        rw [HW8.out]
        clear p3 p4 hy HW8
        go_wp2_with fail
        exact ⟨⟨i + 1, xs.set m (turnB x), by omega, by go_num, HF.out.1, HF.out.2.1, HF.out.2.2⟩, by simp [intOf]; omega⟩
    · obtain rfl : i = 2 := by omega
      go_wp2_with fail
      go_returns
      exact ⟨rfl, kk⟩
end Go.Proofs.YtgeihjpifbkpkaaDoor

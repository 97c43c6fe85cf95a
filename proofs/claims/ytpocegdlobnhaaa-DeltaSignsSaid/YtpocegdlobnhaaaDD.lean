/- A Hash that begins and takes pieces: what was taken so far, as a relation on its cells. -/
import Derived.Test.YtpocegdlobnhaaaIb
import Derived.Test.YtpocegdlobnhaaaDB
import Derived.Test.YtpocegdlobnhaaaSl
set_option linter.unusedVariables false
set_option linter.unusedSimpArgs false
set_option maxRecDepth 100000
namespace Go.Proofs.Ytpocegdlobnhaaa.Dig
open Go.RowKit

section
open Go
variable {P : Program} {w : World} {ops : Array Oper} {o : Oper} {a : Act} {K : Act → World → Prop} {Q : Exit → Act → World → Prop} {E : Prop}
/-- The builtin copy as a step of a region that draws its order. -/
theorem step_copyB (hgd : o.guard = none) (d s : Operand) (dT sT : TypeId)
    (ho : o.op = .call { callee := .builtin .copy, args := #[d, s], argTypes := #[dT, sT] }) (elem : TypeId) (hu : P.underlying dT = some (.slice elem)) (hsz : (P.info? elem).map (·.size) = some 1)
    (dp sp : Option Addr) (dLen dCap sLen sCap : Nat) (hd : a.eval d = .slice dp dLen dCap) (hs : a.eval s = .slice sp sLen sCap)
    (g off : Nat) (cur : List Value) (t : TypeId) (hg : Blk w g cur.toArray t) (cs : List Value) (hn : cs.length = Nat.min sLen dLen)
    (hdp : 0 < cs.length → dp = some ⟨g, off, none⟩) (hrd : Rd w sp cs) (hfit : off + cs.length ≤ cur.length) (h1 : ∀ v ∈ cs, v.oneCell' = true)
    (h : ∀ w', Hid (Blk w' g (cur.take off ++ (cs ++ cur.drop (off + cs.length))).toArray t) → Keep [g] w w' → K (a.put o.dst (goInt cs.length)) w') :
    if Region.wanted o (yielded ops a.tmps) = true then Oper.wp P o a w K Q else E := by
  have hw : Region.wanted o (yielded ops a.tmps) = true := by simp [Region.wanted, hgd]
  rw [if_pos hw]
  by_cases h0 : cs.length = 0
  · obtain rfl : cs = [] := List.eq_nil_of_length_eq_zero h0
    have hrun := run_copy_none (P := P) w dT sT o.type elem dp sp dLen dCap sLen sCap hu hsz (by simpa using hn.symm)
    unfold Oper.wp
    simp [execOp, ho, resolve, invoke, builtin, hd, hs, hrun, Result.andThen]
    exact h w (show Blk _ _ _ _ by simpa using hg) (Keep.refl _ _)
  · obtain rfl := hdp (by omega)
    rcases hrd with rfl | ⟨b, so, rfl, hsrc⟩
    · simp at h0
    · have hrun := run_copy_row (P := P) w dT sT o.type elem g off dLen dCap ⟨b, so, none⟩ sLen sCap cur.toArray t cs hu hsz hg hn (fun j v hv => by
        have := hsrc j v hv
        unfold Addr.add; split
        · simpa [*] using this
        · exact this) (by simpa using hfit) h1
      unfold Oper.wp
      simp [execOp, ho, resolve, invoke, builtin, hd, hs, hrun, Result.andThen]
      exact h _ (show Blk _ _ _ _ by unfold Blk; simpa using setRow_heap w g _ _ t _ hg) ⟨rfl, rfl, rfl, by simp, fun k _ hk => setRow_other w g k _ (by simpa using hk)⟩
end

section
variable {b : Bool} {st : List Int} {bl : List UInt8} {hv tot : Int}
theorem hashList_length (hst : st.length = 8) (hbl : bl.length = 64) : (hashList b st bl hv tot).length = 75 := by simp [hashList, u32s, bs, hst, hbl]
theorem hash_begun : (hashCells b st bl hv tot)[0]? = some (.bool b) := rfl
theorem hash_ends (hst : st.length = 8) (hbl : bl.length = 64) : hashList b st bl hv tot = (Value.bool b :: (u32s st ++ bs bl)) ++ [Value.int .i64 hv, Value.int .u64 tot] := by simp [hashList]
theorem hash_head_length (hst : st.length = 8) (hbl : bl.length = 64) : (Value.bool b :: (u32s st ++ bs bl)).length = 73 := by simp [u32s, bs, hst, hbl]
theorem hash_have (hst : st.length = 8) (hbl : bl.length = 64) : (hashCells b st bl hv tot)[73]? = some (.int .i64 hv) := by
  rw [hashCells, List.getElem?_toArray, hash_ends hst hbl, List.getElem?_append_right (by rw [hash_head_length hst hbl]; omega), hash_head_length hst hbl]; rfl
theorem hash_total (hst : st.length = 8) (hbl : bl.length = 64) : (hashCells b st bl hv tot)[74]? = some (.int .u64 tot) := by
  rw [hashCells, List.getElem?_toArray, hash_ends hst hbl, List.getElem?_append_right (by rw [hash_head_length hst hbl]; omega), hash_head_length hst hbl]; rfl
theorem hash_setHave (hst : st.length = 8) (hbl : bl.length = 64) (x : Int) : (hashCells b st bl hv tot).setIfInBounds 73 (.int .i64 x) = hashCells b st bl x tot := by
  rw [hashCells, hashCells, List.setIfInBounds_toArray, hash_ends hst hbl, hash_ends hst hbl, List.set_append_right _ _ (by rw [hash_head_length hst hbl]; omega), hash_head_length hst hbl]; rfl
theorem hash_setTotal (hst : st.length = 8) (hbl : bl.length = 64) (x : Int) : (hashCells b st bl hv tot).setIfInBounds 74 (.int .u64 x) = hashCells b st bl hv x := by
  rw [hashCells, hashCells, List.setIfInBounds_toArray, hash_ends hst hbl, hash_ends hst hbl, List.set_append_right _ _ (by rw [hash_head_length hst hbl]; omega), hash_head_length hst hbl]; rfl
theorem hash_setBegun (x : Bool) : (hashCells b st bl hv tot).setIfInBounds 0 (.bool x) = hashCells x st bl hv tot := by
  rw [hashCells, hashCells, List.setIfInBounds_toArray]; rfl
theorem hash_splice (hst : st.length = 8) (hbl : bl.length = 64) (h : Nat) (c : List UInt8) (hc : h + c.length ≤ 64) :
    (hashList b st bl hv tot).take (9 + h) ++ (bs c ++ (hashList b st bl hv tot).drop (9 + h + (bs c).length)) = hashList b st (laid bl h c) hv tot := by
  have e : hashList b st bl hv tot = (Value.bool b :: u32s st) ++ (bs bl ++ [Value.int .i64 hv, Value.int .u64 tot]) := by simp [hashList]
  have l9 : (Value.bool b :: u32s st).length = 9 := by simp [u32s, hst]
  have lb : (bs bl).length = 64 := by rw [bs_length, hbl]
  have lc : (bs c).length = c.length := bs_length c
  rw [e, List.take_append, List.drop_append, l9, List.take_of_length_le (by rw [l9]; omega), List.drop_eq_nil_of_le (by rw [l9]; omega)]
  rw [show 9 + h - 9 = h by omega, show 9 + h + (bs c).length - 9 = h + c.length by omega, List.take_append_of_le_length (by rw [lb]; omega), List.drop_append_of_le_length (by rw [lb]; omega)]
  simp [hashList, laid, bs, List.map_take, List.map_drop]
end

/-- The cells of a Hash that has taken d. -/
structure Took (d : List UInt8) (b : Bool) (st : List Int) (bl : List UInt8) (h : Nat) (tot : Int) : Prop where
  st8 : st.length = 8
  bl64 : bl.length = 64
  total : tot = (d.length : Int) % 18446744073709551616
  begun : b = true → TookF comp d st bl h
  zero : b = false → d = [] ∧ h = 0
theorem Took.first {d : List UInt8} {b : Bool} {st : List Int} {bl : List UInt8} {h : Nat} {tot : Int} (k : Took d b st bl h tot) : TookF comp d (if b then st else first) bl h := by
  cases b with
  | true => exact k.begun rfl
  | false => obtain ⟨rfl, rfl⟩ := k.zero rfl; exact TookF.none bl k.bl64
/-- Block hb is a Hash that has taken d. -/
def HashAt (w : World) (hb : Nat) (d : List UInt8) : Prop := ∃ b st bl, ∃ h : Nat, ∃ tot, Blk w hb (hashCells b st bl h tot) 161 ∧ Took d b st bl h tot
theorem HashAt.keep {w w' : World} {hb : Nat} {d : List UInt8} {S : List Nat} (h : HashAt w hb d) (k : Keep S w w') (hS : hb ∉ S) : HashAt w' hb d := by
  obtain ⟨b, st, bl, n, tot, h1, h2⟩ := h
  exact ⟨b, st, bl, n, tot, h1.keep k hS, h2⟩

set_option maxHeartbeats 2000000 in
set_option maxRecDepth 100000 in
theorem begin_any (hb : Nat) (b : Bool) (st : List Int) (bl : List UInt8) (hv tot : Int) (w : World) (hB : Blk w hb (hashCells b st bl hv tot) 161) (hst : st.length = 8) :
    Calls Try.prog 116 #[.pointer (some ⟨hb, 0, none⟩)] w fun e w' => e = .returned (.tuple #[]) ∧ Blk w' hb (hashCells true (if b then st else first) bl hv tot) 161 ∧ Keep [hb] w w' := by
  obtain ⟨s0, s1, s2, s3, s4, s5, s6, s7, rfl⟩ := eight hst
  have c := hB.cell hash_begun
  have c0 : w.cell? ⟨hb, 1, none⟩ = some (.int .u32 s0) := hB.cell (i := 1) rfl
  have c1 : w.cell? ⟨hb, 2, none⟩ = some (.int .u32 s1) := hB.cell (i := 2) rfl
  have c2 : w.cell? ⟨hb, 3, none⟩ = some (.int .u32 s2) := hB.cell (i := 3) rfl
  have c3 : w.cell? ⟨hb, 4, none⟩ = some (.int .u32 s3) := hB.cell (i := 4) rfl
  have c4 : w.cell? ⟨hb, 5, none⟩ = some (.int .u32 s4) := hB.cell (i := 5) rfl
  have c5 : w.cell? ⟨hb, 6, none⟩ = some (.int .u32 s5) := hB.cell (i := 6) rfl
  have c6 : w.cell? ⟨hb, 7, none⟩ = some (.int .u32 s6) := hB.cell (i := 7) rfl
  have c7 : w.cell? ⟨hb, 8, none⟩ = some (.int .u32 s7) := hB.cell (i := 8) rfl
  have f := hB.free (i := 0)
  have f0 := hB.free (i := 1)
  have f1 := hB.free (i := 2)
  have f2 := hB.free (i := 3)
  have f3 := hB.free (i := 4)
  have f4 := hB.free (i := 5)
  have f5 := hB.free (i := 6)
  have f6 := hB.free (i := 7)
  have f7 := hB.free (i := 8)
  go_enter Try.func116, Try.ntmps116
  cases b with
  | true =>
    go_wp2_with fail
    go_returns
    exact ⟨rfl, hB, Keep.refl _ _⟩
  | false =>
    go_wp2_with fail
    go_returns
    refine ⟨rfl, ?_, ?_⟩
    · have := ((((((((hB.set 0 (.bool true)).set (1 + 0) (.int .u32 0x6a09e667)).set (1 + 1) (.int .u32 0xbb67ae85)).set (1 + 2) (.int .u32 0x3c6ef372)).set (1 + 3) (.int .u32 0xa54ff53a)).set (1 + 4) (.int .u32 0x510e527f)).set (1 + 5) (.int .u32 0x9b05688c)).set (1 + 6) (.int .u32 0x1f83d9ab)).set (1 + 7) (.int .u32 0x5be0cd19)
      rw [hash_setBegun, hash_setWord (by simp), hash_setWord (by simp), hash_setWord (by simp), hash_setWord (by simp), hash_setWord (by simp), hash_setWord (by simp), hash_setWord (by simp), hash_setWord (by simp)] at this
      exact this
    · have hm : hb ∈ [hb] ∨ w.heap.size ≤ hb := Or.inl (by simp)
      exact ((((((((((Keep.refl [hb] w).set hm _).set hm _).set hm _).set hm _).set hm _).set hm _).set hm _).set hm _).set hm _)

/-- A slice's length. -/
def slLen : Value → Nat
  | .slice _ m _ => m
  | _ => 0
theorem size5 : (Try.prog.info? 5).map (·.size) = some 1 := by kernel_rfl

set_option maxHeartbeats 4000000 in
set_option maxRecDepth 100000 in
theorem write_any (hb : Nat) (d xs : List UInt8) (n cap : Nat) (pa : Option Addr) (w : World) (hH : HashAt w hb d) (hl : xs.length = n) (hnc : n ≤ cap) (hcap : cap ≤ 9223372036854775807) (hrd : Rd w pa (bs xs)) (hne : xs ≠ [] → ablk pa ≠ hb) :
    Calls Try.prog 102 #[.pointer (some ⟨hb, 0, none⟩), .slice pa n cap] w fun e w' => e = .returned (.tuple #[]) ∧ HashAt w' hb (d ++ xs) ∧ Keep [hb] w w' := by
  obtain ⟨b, st, bl, h, tot, hB, hT⟩ := hH
  have HL := Lib.hid hl
  clear hl
  go_enter Try.func102, Try.ntmps102
  have hb8 : (if b then st else first).length = 8 := by cases b; rfl; exact hT.st8
  go_wp2_with (first | (go_at_call 116; refine (begin_any hb b st bl h tot w hB hT.st8).mono ?_; rintro e w1 ⟨rfl, hB1, hk1⟩
                        have ct := hB1.cell (hash_total hb8 hT.bl64)
                        have ft := hB1.free (i := 74)) | fail)
  have hT1 := hT.first
  have htot : (tot + (n : Int)) % 18446744073709551616 = ((d ++ xs).length : Int) % 18446744073709551616 := by rw [hT.total, List.length_append, HL.out]; omega
  have hB2 := hB1.set 74 (.int .u64 ((tot + (n : Int)) % 18446744073709551616))
  rw [hash_setTotal hb8 hT.bl64, htot] at hB2
  have hk2 : Keep [hb] w (w1.setCell ⟨hb, 74, none⟩ (.int .u64 (((d ++ xs).length : Int) % 18446744073709551616))) := hk1.set (Or.inl (by simp)) _
  have hrd2 := hrd.keep hk2 (by intro hx; simp only [List.mem_singleton]; exact hne (by intro e; subst e; exact hx rfl))
  obtain ⟨st1, hst1⟩ : ∃ st1, (if b then st else first) = st1 := ⟨_, rfl⟩
  rw [hst1] at hb8 hT1 hB2
  obtain ⟨T, hTT⟩ : ∃ T, ((d ++ xs).length : Int) % 18446744073709551616 = T := ⟨_, rfl⟩
  have hwT : IntKind.u64.wrap (tot + (n : Int)) = T := by rw [← hTT, ← htot]; rfl
  simp only [hwT]
  rw [hTT] at hB2 hk2 hrd2
  clear hwT htot
  go_loopw [1] (fun v wr => ∃ (k : Nat) (pa' : Option Addr) (cap' : Nat) (st' : List Int) (bl' : List UInt8) (h' : Nat), k ≤ n ∧ v = .slice pa' (n - k) cap' ∧ n - k ≤ cap' ∧ cap' ≤ 9223372036854775807 ∧ Rd wr pa' (bs (xs.drop k)) ∧ (xs.drop k ≠ [] → ablk pa' ≠ hb) ∧ Blk wr hb (hashCells true st' bl' h' T) 161 ∧ TookF comp (d ++ xs.take k) st' bl' h' ∧ st'.length = 8 ∧ Keep [hb] w wr) (fun v _ => slLen v)
  case atStart => exact ⟨0, pa, cap, st1, bl, h, by omega, rfl, by simpa using hnc, hcap, hrd2, hne, hB2, by simpa using hT1, hb8, hk2⟩
  case round =>
    clear hb8 hT1 hB2 hk2 hrd2 hB1 hk1 ct ft
    obtain ⟨k, pa', cap', st', bl', h', hkn, rfl, hmc, hcap', hrd', hne', hB', hT', hst', hkr⟩ := hrel
    by_cases hlt : k < n
    · have hdrop : (xs.drop k).length = n - k := by rw [List.length_drop, HL.out]
      have hh64 : h' < 64 := by rw [hT'.hvE]; omega
      obtain ⟨m, hm⟩ : ∃ m, n - k = m := ⟨_, rfl⟩
      have hmpos : 0 < m := by omega
      rw [hm] at hmc hdrop
      obtain ⟨pb, po, rfl, hcells⟩ : ∃ pb po, pa' = some ⟨pb, po, none⟩ ∧ ∀ j v, (bs (xs.drop k))[j]? = some v → wr.cell? ⟨pb, po + j, none⟩ = some v := by
        rcases hrd' with e | ⟨b, off, e, hc⟩
        · have := congrArg List.length e; rw [bs_length, hdrop] at this; simp at this; omega
        · exact ⟨b, off, e, hc⟩
      have hpb : pb ≠ hb := hne' (by intro e; rw [e] at hdrop; simp at hdrop; omega)
      obtain ⟨cnt, hcnt⟩ : ∃ cnt, Nat.min m (64 - h') = cnt := ⟨_, rfl⟩
      have hcpos : 0 < cnt := by rw [← hcnt]; exact Nat.lt_min.2 ⟨hmpos, by omega⟩
      have hcnt1 : cnt ≤ m := by rw [← hcnt]; exact Nat.min_le_left _ _
      have hcnt2 : cnt ≤ 64 - h' := by rw [← hcnt]; exact Nat.min_le_right _ _
      have hcl : ((xs.drop k).take cnt).length = cnt := by rw [List.length_take, hdrop]; omega
      have ch := hB'.cell (hash_have hst' hT'.bl64)
      have fh := hB'.free (i := 73)
      have z1 : (0 : Int) ≤ (h' : Int) := by omega
      have z2 : (h' : Int) ≤ 64 := by omega
      have z3 : (h' : Int) < 64 := by omega
      have z4 : ¬ h' = 64 := by omega
      have z6 : ¬ 64 = h' := by omega
      have z5 : (0 : Int) < (m : Int) := by omega
      have hrdc : Rd wr (some ⟨pb, po, none⟩) (bs ((xs.drop k).take cnt)) := by
        refine Or.inr ⟨pb, po, rfl, fun j v hv => hcells j v ?_⟩
        rw [bs, List.map_take] at hv
        rw [List.getElem?_take] at hv
        split at hv
        · exact hv
        · cases hv
      have z7 : (cnt : Int) ≤ m := by omega
      have z8 : (0 : Int) ≤ (cnt : Int) := by omega
      have z9 : (h' : Int) + cnt ≤ 64 := by omega
      have hmin : min cnt (xs.length - k) = cnt := by rw [HL.out, hm]; omega
      obtain ⟨A, hA⟩ : ∃ A : Option Addr, (if cap' = cnt then some (⟨pb, po, none⟩ : Addr) else some ⟨pb, po + cnt, none⟩) = A := ⟨_, rfl⟩
      have hll : (laid bl' h' ((xs.drop k).take cnt)).length = 64 := laid_length hT'.bl64 (by rw [hcl]; omega)
      obtain ⟨bl4, hbl4⟩ : ∃ bl4, laid bl' h' ((xs.drop k).take cnt) = bl4 := ⟨_, rfl⟩
      have hsp := hash_splice (b := true) (hv := h') (tot := T) hst' hT'.bl64 h' ((xs.drop k).take cnt) (by rw [hcl]; omega)
      rw [hbl4] at hll hsp
      have hkey : xs.drop (k + cnt) ≠ [] → cnt < m := by
        intro e; rcases Nat.lt_or_ge cnt m with h | h
        · exact h
        · exact absurd (List.drop_eq_nil_of_le (by rw [HL.out]; omega)) e
      have hrdA : ∀ wz, Keep [hb] wr wz → Rd wz A (bs (xs.drop (k + cnt))) := by
        intro wz hkz
        by_cases hc : cnt < m
        · rw [if_neg (by omega)] at hA
          subst hA
          refine Or.inr ⟨pb, po + cnt, rfl, fun j v hv => ?_⟩
          refine hkz.cell (v := v) ?_ (by simpa using hpb)
          rw [show po + cnt + j = po + (cnt + j) by omega]
          refine hcells (cnt + j) v ?_
          rw [← hv]
          simp only [bs, List.getElem?_map, List.getElem?_drop, Nat.add_assoc]
        · rw [List.drop_eq_nil_of_le (by rw [HL.out]; omega)]; exact Rd.nil
      have hAb : ablk A ≠ hb := by rw [← hA]; split <;> exact hpb
      have htk : xs.take (k + cnt) = xs.take k ++ (xs.drop k).take cnt := List.take_add
      rw [hm]
      have HR := Lib.hid hrdA
      have HSP := Lib.hid hsp
      have HBL := Lib.hid hbl4
      have HLL := Lib.hid hll
      have HTK := Lib.hid htk
      clear hrdA hsp hbl4 hll htk hkey
      have HD := Lib.hid hdrop
      have HCL := Lib.hid hcl
      have HCN := Lib.hid hcnt
      have HM := Lib.hid hm
      have HCE := Lib.hid hcells
      clear hdrop hcl hcnt hm hcells
      go_wp2_with fail
      go_region_law (refine step_copyB rfl (.tmp 29) (.tmp 30) 22 22 rfl 5 Try.underlying22 size5 (some ⟨hb, 9 + h', none⟩) (some ⟨pb, po, none⟩) (64 - h') (64 - h') m cap' rfl rfl hb (9 + h') (hashList true st' bl' h' T) 161 hB' (bs ((xs.drop k).take cnt)) (by rw [bs_length, HCL.out, HCN.out]) (fun _ => rfl) hrdc (by rw [bs_length, HCL.out, hashList_length hst' hT'.bl64]; omega) (bs_one _) ?_; intro w4 hB4 hk4)
      have hB5 : Blk w4 hb (hashCells true st' bl4 h' T) 161 := by
        have := hB4.out
        rw [HSP.out] at this
        exact this
      have hT5 := hT'.bl64
      have hkw4 : Keep [hb] w w4 := hkr.drew.trans hk4 (by simp)
      have c4 := hB5.cell (hash_have hst' HLL.out)
      have f4 := hB5.free (i := 73)
      by_cases hful : h' + cnt = 64
      · have hfi : (h' : Int) + cnt = 64 := by omega
        have hB6 := hB5.set 73 (.int .i64 64)
        rw [hash_setHave hst' HLL.out] at hB6
        go_wp2_with (first | (go_at_call 117; refine (turn_any (sched bl4) hb st' bl4 64 T _ hB6 hst' HLL.out (sched_is _)).mono ?_; rintro e w6 ⟨rfl, hB7, hk7⟩
                              have hs7 : (compS (sched bl4) st').length = 8 := comp_length hst'
                              have c7 := hB7.cell (hash_have hs7 HLL.out)
                              have f7 := hB7.free (i := 73)) | fail)
        have hT7 := TookF.full hT' (by rw [HCL.out]; exact hful)
        rw [HBL.out, List.append_assoc, ← HTK.out] at hT7
        have hkw7 : Keep [hb] wr (w6.setCell ⟨hb, 73, none⟩ (.int .i64 0)) := (((((Keep.refl [hb] wr).drew.trans hk4 (by simp)).set (Or.inl (by simp)) _).trans hk7 (by simp))).set (Or.inl (by simp)) _
        have hB8 := hB7.set 73 (.int .i64 0)
        rw [hash_setHave hs7 HLL.out] at hB8
        exact ⟨⟨k + cnt, A, cap' - cnt, _, bl4, 0, by have := HM.out; omega, by rw [show n - (k + cnt) = m - cnt by have := HM.out; omega], by have := HM.out; omega, by omega, HR.out _ hkw7, fun _ => hAb, hB8, hT7, hs7, hkr.trans hkw7 (by simp)⟩, by simp only [slLen]; omega⟩
      · have hfi : ¬ (h' : Int) + cnt = 64 := by omega
        have hB6 := hB5.set 73 (.int .i64 ((h' : Int) + cnt))
        rw [hash_setHave hst' HLL.out] at hB6
        go_wp2_with fail
        have hT7 := TookF.more hT' (c := (xs.drop k).take cnt) (by rw [HCL.out]; omega)
        rw [HBL.out, List.append_assoc, ← HTK.out, HCL.out] at hT7
        have hkw7 : Keep [hb] wr (w4.setCell ⟨hb, 73, none⟩ (.int .i64 ((h' : Int) + cnt))) := ((Keep.refl [hb] wr).drew.trans hk4 (by simp)).set (Or.inl (by simp)) _
        exact ⟨⟨k + cnt, A, cap' - cnt, st', bl4, h' + cnt, by have := HM.out; omega, by rw [show n - (k + cnt) = m - cnt by have := HM.out; omega], by have := HM.out; omega, by omega, HR.out _ hkw7, fun _ => hAb, by rw [show ((h' + cnt : Nat) : Int) = (h' : Int) + cnt by omega]; exact hB6, hT7, hst', hkr.trans hkw7 (by simp)⟩, by simp only [slLen]; omega⟩
    · obtain rfl : k = n := by omega
      rw [List.take_of_length_le (by rw [HL.out]; exact Nat.le_refl _)] at hT'
      rw [Nat.sub_self]
      go_wp2_with fail
      go_returns
      exact ⟨rfl, ⟨true, st', bl', h', T, hB', hst', hT'.bl64, hTT.symm, fun _ => hT', fun e => by cases e⟩, hkr⟩
end Go.Proofs.Ytpocegdlobnhaaa.Dig

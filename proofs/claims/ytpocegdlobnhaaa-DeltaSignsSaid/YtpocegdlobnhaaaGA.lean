/- Sd Ec Ed Ig Ik Ct -/
import Derived.Test.YtpocegdlobnhaaaMa
import Derived.Test.YtpocegdlobnhaaaGV
import Derived.Test.YtpocegdlobnhaaaSu
import Derived.Test.YtpocegdlobnhaaaCG
import Derived.WalkLawsBesides
import Derived.Test.YtpocegdlobnhaaaSx
import Derived.Defers
import Derived.Recover
import Derived.Laws.Pointers
section
/- summed: bytes and their sum behind them. -/
set_option linter.unusedVariables false
set_option linter.unusedSimpArgs false
set_option maxRecDepth 100000
namespace Go.Proofs.Ytpocegdlobnhaaa
open Go.RowKit

theorem crc_lt (d : List UInt8) : Cod.crc d < 4294967296 := by unfold Cod.crc; omega
/-- Bytes and their sum behind them. -/
def sealB (d : List UInt8) : List UInt8 := d ++ Cod.fixB (Cod.crc d) 4
theorem sealB_len (d : List UInt8) : (sealB d).length = d.length + 4 := by simp [sealB, Cod.fixB_len]
theorem crc_fix (d : List UInt8) : Cod.isFix (Cod.crc d) 4 = true := by
  have := crc_lt d
  simp only [Cod.isFix, decide_eq_true_eq]
  refine ⟨by omega, by omega, by omega, ?_⟩
  show ((Cod.crc d : Nat) : Int) < 2 ^ 32
  omega
theorem crc_wf (d : List UInt8) : (Lit.int .i64 ((Cod.crc d : Nat) : Int)).wf = true := by
  have := crc_lt d
  simp [Lit.wf, IntKind.min, IntKind.max, IntKind.signed, IntKind.bits]; omega

theorem sum_put (P : Nat) (S : List Nat) (d : List UInt8) (w2 : World) (hW : Cod.WrAt w2 P S false d) (hd : d.length + 9 ≤ 140737488355328) :
    Calls Try.prog 66 #[.pointer (some ⟨P, 0, none⟩), .int .i64 ((Cod.crc d : Nat) : Int), .int .i64 4] w2 fun e w' => e = .returned (.tuple #[]) ∧ (∃ S', Cod.WrAt w' P S' false (sealB d) ∧ Fr w2 S S') ∧ Keep S w2 w' := by
  have h := Cod.fixed_any P S false d (Cod.crc d : Nat) 4 w2 hW (crc_wf d) (by omega)
  rw [crc_fix d] at h
  exact h
theorem data_at (P : Nat) (S : List Nat) (d : List UInt8) (n : Nat) (w : World) (hW : Cod.WrAt w P S false d) (hn : d.length = n) (hd : d.length ≤ 140737488355328) :
    Calls Try.prog 100 #[.pointer (some ⟨P, 0, none⟩)] w fun e w' => ∃ a c, e = .returned (.tuple #[.slice a n c, .int .i64 0]) ∧ Sl w' 5 1 (.slice a n c) n (bs d) ∧ Keep [] w w' := by
  refine (Cod.data_ok P S d w hW hd).mono ?_
  rintro e w' ⟨a, m, c, rfl, h1, h2, h3, h4⟩
  obtain rfl : m = n := h1.trans hn
  exact ⟨a, c, rfl, h2, h4⟩
set_option maxHeartbeats 4000000 in
theorem summed_any (P : Nat) (S : List Nat) (d : List UInt8) (w : World) (hW : Cod.WrAt w P S false d) (hd : d.length + 9 ≤ 140737488355328) :
    Calls Try.prog 69 #[.pointer (some ⟨P, 0, none⟩)] w fun e w' => ∃ a n c, e = .returned (.slice a n c) ∧ n = (sealB d).length ∧ Sl w' 5 1 (.slice a n c) n (bs (sealB d)) ∧ Fr w [] (blks (.slice a n c)) ∧ Keep S w w' := by
  obtain ⟨n, hn⟩ : ∃ n, d.length = n := ⟨_, rfl⟩
  have HN := Lib.hid hn
  have hdat := data_at P S d n w hW hn (by omega)
  have HS : Hid (∀ b ∈ S, b < w.heap.size) := Lib.hid hW.lt
  have HFX := Lib.hid (sum_put P S d)
  obtain ⟨cr, hcr⟩ : ∃ cr, Cod.crc d = cr := ⟨_, rfl⟩
  have HCR := Lib.hid hcr
  rw [hcr] at HFX
  clear hcr
  clear hn
  go_enter Try.func69, Try.ntmps69
  go_upto_region 2 with (first
    | (go_at_call 100; refine hdat.mono ?_; rintro e w1 ⟨a1, c1, rfl, hs1, hk1⟩)
    | fail)
  have hW1 := hW.keep hk1 (by simp)
  have hu := hs1.use
  have hsum := Cod.sum_any a1 n c1 d w1 HN.out (by have := HN.out; omega) hu.2.2.1
  rw [HCR.out] at hsum
  have HSUM := Lib.hid hsum
  have kw : w.heap.size ≤ w1.heap.size := hk1.size
  clear hsum hdat hs1 hu
  have HD := Lib.hid hd
  clear hd hW
  go_upto_region 3 with (first
    | (go_at_call 101; refine HSUM.out.mono ?_; rintro e w2 ⟨rfl, hk2⟩)
    | (go_at_call 66; refine (HFX.out w2 (hW1.keep hk2 (by simp)) HD.out).mono ?_; rintro e w3 ⟨rfl, ⟨S3, hW3, hf3⟩, hk3⟩)
    | fail)
  obtain ⟨m, hm⟩ : ∃ m, (sealB d).length = m := ⟨_, rfl⟩
  have HM := Lib.hid hm
  have HDAT2 := Lib.hid (Cod.data_ok P S3 (sealB d) w3 hW3 (by rw [sealB_len]; have := HD.out; omega))
  clear hm
  go_upto_region 4 with (first
    | (go_at_call 100; refine HDAT2.out.mono ?_; rintro e w4 ⟨a4, n4, c4, rfl, hn4, hs4, hf4, hk4⟩; have HN4 := Lib.hid hn4; clear hn4)
    | fail)
  have kk : Keep S w w3 := Keep.trans (S := S) ((hk1.trans' hk2).mono (by simp)) hk3 (fun b hb => Or.inl hb)
  go_wp2_with fail
  go_returns
  refine ⟨_, _, _, rfl, HN4.out, hs4, ?_, kk.trans' hk4⟩
  intro b hb
  rcases hf4 b hb with h | h
  · cases h
  · exact Or.inr (Nat.le_trans kk.size h)
end Go.Proofs.Ytpocegdlobnhaaa
end
section
/- Encode of the program. -/
set_option linter.unusedVariables false
set_option linter.unusedSimpArgs false
set_option maxRecDepth 100000
namespace Go.Proofs.Ytpocegdlobnhaaa
open Go.RowKit

/-- The head of a signature's bytes. -/
def hdB (s : Sg) : List UInt8 := ((([83] ++ Cod.numB s.width.toNat) ++ Cod.numB s.size.toNat) ++ Cod.numB s.length.toNat) ++ s.base.take s.width.toNat
def bkB (wd : Nat) (x : Wk) : List UInt8 := Cod.fixB x.sum.toNat 4 ++ x.id.take wd
def bodyTo (s : Sg) (i : Nat) : List UInt8 := hdB s ++ (s.blocks.take i).flatMap (bkB s.width.toNat)
def encX (s : Sg) : List UInt8 := if mayO s = true then sealB (bodyTo s s.blocks.length) else []
def encZ (s : Sg) : Int := if mayO s = true then 0 else 180
/-- A Writer's step. -/
theorem wr_fix {W : World} {P : Nat} {S : List Nat} {d X : List UInt8} {v k : Int} (hW : Cod.WrAt W P S false d) (hf : Cod.isFix v k = true) (hv : (Lit.int .i64 v).wf = true) (hd : d.length + 5 ≤ 140737488355328) (hX : d ++ Cod.fixB v.toNat k.toNat = X) :
    Calls Try.prog 66 #[.pointer (some ⟨P, 0, none⟩), .int .i64 v, .int .i64 k] W fun e w' => e = .returned (.tuple #[]) ∧ ∃ S', Cod.WrAt w' P S' false X ∧ Fr W S S' ∧ Keep S W w' := by
  refine (Cod.fixed_any P S false d v k W hW hv hd).mono ?_
  rintro e w' ⟨rfl, ⟨S', h1, h2⟩, h3⟩
  rw [hf] at h1
  subst hX
  exact ⟨rfl, S', h1, h2, h3⟩
theorem wr_num {W : World} {P : Nat} {S : List Nat} {d X : List UInt8} {v : Nat} (hW : Cod.WrAt W P S false d) (hv : v ≤ 2147483647) (hd : d.length + 5 ≤ 140737488355328) (hX : d ++ Cod.numB v = X) :
    Calls Try.prog 67 #[.pointer (some ⟨P, 0, none⟩), .int .i64 (v : Nat)] W fun e w' => e = .returned (.tuple #[]) ∧ ∃ S', Cod.WrAt w' P S' false X ∧ Fr W S S' ∧ Keep S W w' := by
  refine (Cod.number_any P S false d v W hW (by simp [Lit.wf, IntKind.min, IntKind.max, IntKind.signed, IntKind.bits]; omega) hd).mono ?_
  rintro e w' ⟨rfl, ⟨S', h1, h2⟩, h3⟩
  have hi : Cod.isNum (v : Int) = true := by simp [Cod.isNum]; omega
  rw [hi] at h1
  subst hX
  exact ⟨rfl, S', h1, h2, h3⟩
theorem wr_raw {W : World} {P b o m cap : Nat} {S : List Nat} {d X xs : List UInt8} (hW : Cod.WrAt W P S false d) (hr : W.rangeAt b o (bs xs)) (hm : m ≤ xs.length) (hb : b ≠ P) (hd : d.length + m ≤ 140737488355328) (hX : d ++ xs.take m = X) :
    Calls Try.prog 68 #[.pointer (some ⟨P, 0, none⟩), .slice (some ⟨b, o, none⟩) m cap] W fun e w' => e = .returned (.tuple #[]) ∧ ∃ S', Cod.WrAt w' P S' false X ∧ Fr W S S' ∧ Keep S W w' := by
  refine (Cod.raw_any P S false d (xs.take m) (some ⟨b, o, none⟩) m cap W hW (by rw [List.length_take]; omega) (by intro h; cases h) (Or.inr ⟨b, o, rfl, fun k v hk => hr k v ?_⟩) (fun _ => hb) hd).mono ?_
  · rw [bs, List.getElem?_map] at hk ⊢
    rw [List.getElem?_take] at hk
    by_cases h : k < m
    · rwa [if_pos h] at hk
    · rw [if_neg h] at hk; cases hk
  rintro e w' ⟨rfl, ⟨S', h1, h2⟩, h3⟩
  subst hX
  exact ⟨rfl, S', h1, h2, h3⟩
/-- A Writer since a world. -/
def Wr (w0 W : World) (P : Nat) (X : List UInt8) : Prop := ∃ S, Cod.WrAt W P S false X ∧ Fr w0 [] S ∧ Keep [] w0 W
theorem Wr.keep {w0 W : World} {P : Nat} {X : List UInt8} (h : Wr w0 W P X) : Keep [] w0 W := by obtain ⟨S, h1, h2, h3⟩ := h; exact h3
theorem Wr.step {w0 W w' : World} {P : Nat} {X d : List UInt8} {S : List Nat} (hF : Fr w0 [] S) (hK : Keep [] w0 W) (h : ∃ S', Cod.WrAt w' P S' false X ∧ Fr W S S' ∧ Keep S W w') : Wr w0 w' P X := by
  obtain ⟨S', h1, h2, h3⟩ := h
  exact ⟨S', h1, hF.trans h2 hK.size, hK.trans h3 (fun b hb => (hF b hb).elim (fun h => by cases h) Or.inr)⟩
theorem Wr.fix {w0 W : World} {P : Nat} {d : List UInt8} (h : Wr w0 W P d) (X : List UInt8) (v k : Int) (hf : Cod.isFix v k = true) (hv : (Lit.int .i64 v).wf = true) (hd : d.length + 5 ≤ 140737488355328) (hX : d ++ Cod.fixB v.toNat k.toNat = X) :
    Calls Try.prog 66 #[.pointer (some ⟨P, 0, none⟩), .int .i64 v, .int .i64 k] W fun e w' => e = .returned (.tuple #[]) ∧ Wr w0 w' P X := by
  obtain ⟨S, h1, h2, h3⟩ := h
  refine (wr_fix h1 hf hv hd hX).mono ?_
  rintro e w' ⟨rfl, h⟩
  exact ⟨rfl, Wr.step (d := d) h2 h3 h⟩
theorem Wr.num {w0 W : World} {P : Nat} {d : List UInt8} (h : Wr w0 W P d) (X : List UInt8) (v : Nat) (hv : v ≤ 2147483647) (hd : d.length + 5 ≤ 140737488355328) (hX : d ++ Cod.numB v = X) :
    Calls Try.prog 67 #[.pointer (some ⟨P, 0, none⟩), .int .i64 (v : Nat)] W fun e w' => e = .returned (.tuple #[]) ∧ Wr w0 w' P X := by
  obtain ⟨S, h1, h2, h3⟩ := h
  refine (wr_num h1 hv hd hX).mono ?_
  rintro e w' ⟨rfl, h⟩
  exact ⟨rfl, Wr.step (d := d) h2 h3 h⟩
theorem Wr.raw {w0 W : World} {P : Nat} {d : List UInt8} (h : Wr w0 W P d) (X xs : List UInt8) (b o m cap : Nat) (hr : w0.rangeAt b o (bs xs)) (h0 : xs ≠ []) (hm : m ≤ xs.length) (hd : d.length + m ≤ 140737488355328) (hX : d ++ xs.take m = X) :
    Calls Try.prog 68 #[.pointer (some ⟨P, 0, none⟩), .slice (some ⟨b, o, none⟩) m cap] W fun e w' => e = .returned (.tuple #[]) ∧ Wr w0 w' P X := by
  obtain ⟨S, h1, h2, h3⟩ := h
  have hP : w0.heap.size ≤ P := (h2 P h1.self).elim (fun h => by cases h) id
  refine (wr_raw h1 (rangeAt_keep hr h3 (by simp)) hm ?_ hd hX).mono ?_
  · have : b < w0.heap.size := by
      have hR : Rd w0 (some ⟨b, o, none⟩) (bs xs) := Or.inr ⟨b, o, rfl, fun k v hk => hr k v hk⟩
      exact hR.lt (by rw [bs_length]; exact List.length_pos_iff.2 h0)
    omega
  rintro e w' ⟨rfl, h⟩
  exact ⟨rfl, Wr.step (d := d) h2 h3 h⟩
theorem Cod.WrAt.new (w : World) (b : Nat) (hb : b = w.heap.size) : Cod.WrAt (w.alloc (.cells #[.int .i64 0, .int .i64 0, .slice none 0 0] 115)) b [b] false [] :=
  ⟨0, 0, _, Blk.new' w _ 115 hb, Sl.nil _ _ _, rfl, rfl, by simp [blks, Value.ownBlock]⟩
/-- Bytes and a code, given. -/
def GiveB (w : World) (xs : List UInt8) (z : Int) (e : Ending) (w' : World) : Prop :=
  ∃ a n c, e = .returned (.tuple #[.slice a n c, .int .i64 z]) ∧ n = xs.length ∧ Sl w' 5 1 (.slice a n c) n (bs xs) ∧ Fr w [] (blks (.slice a n c)) ∧ Keep [] w w'
end Go.Proofs.Ytpocegdlobnhaaa
end
section
/- Encode of the program: the walk. -/
set_option linter.unusedVariables false
set_option linter.unusedSimpArgs false
set_option maxRecDepth 100000
namespace Go.Proofs.Ytpocegdlobnhaaa
open Go.RowKit

theorem mayO_num {wd sz ln : Int} {bse : List UInt8} {bl : List Wk} {lb : bse.length = 32} (h : mayO ⟨wd, sz, ln, bse, bl, lb⟩ = true) :
    (∃ V Z L : Nat, wd = V ∧ sz = Z ∧ ln = L ∧ 1 ≤ V ∧ V ≤ 32 ∧ Z ≤ 4096 ∧ L ≤ 131072) ∧ bl.length ≤ 2048 ∧ ∀ x ∈ bl, 0 ≤ x.sum ∧ x.sum ≤ 4294967295 := by
  simp only [mayO, mayH, okW, okS, Bool.and_eq_true, decide_eq_true_eq, List.all_eq_true, okK] at h
  obtain ⟨⟨⟨⟨⟨⟨h1, h2⟩, h3⟩, h4⟩, h5⟩, h6⟩, h7⟩ := h
  exact ⟨⟨wd.toNat, sz.toNat, ln.toNat, by omega, by omega, by omega, by omega, by omega, by omega, by omega⟩, h5, fun x hx => (h7 x hx).1⟩

end Go.Proofs.Ytpocegdlobnhaaa
end
section
/- ask: it gives up, unless it is so. -/
set_option linter.unusedVariables false
set_option linter.unusedSimpArgs false
namespace Go.Proofs.Ytpocegdlobnhaaa
open Go.RowKit
open Cod (RdAt RS)

/-- What a reader gives up with. -/
def gone : PanicEntry := { v := .iface 167 (.agg #[]), recovered := false }
abbrev rdr (P : Nat) : Value := .agg #[.pointer (some ⟨P, 0, none⟩)]

set_option maxHeartbeats 1000000 in
set_option maxRecDepth 100000 in
theorem ask_no (P : Nat) (S : List Nat) (d : List UInt8) (s : RS) (ok : Bool) (w : World) (h : RdAt w P S d s) (hq : ok = false ∨ s.code ≠ 0) :
    Calls Try.prog 85 #[rdr P, .bool ok] w fun e w' => e = .panicked [gone] ∧ Keep [] w w' := by
  have k0 : Keep [] w (w.alloc (.cells #[.pointer (some ⟨P, 0, none⟩)] 140)) := (Keep.refl [] w).alloc _
  have B0 : Blk (w.alloc (.cells #[.pointer (some ⟨P, 0, none⟩)] 140)) w.heap.size #[.pointer (some ⟨P, 0, none⟩)] 140 := Blk.new _ _ _
  obtain ⟨W, hW⟩ : ∃ W, w.alloc (.cells #[.pointer (some ⟨P, 0, none⟩)] 140) = W := ⟨_, rfl⟩
  obtain ⟨R, hR⟩ : ∃ R, w.heap.size = R := ⟨_, rfl⟩
  rw [hW] at k0 B0
  rw [hR] at B0
  have c0 : W.cell? ⟨R, 0, none⟩ = some (.pointer (some ⟨P, 0, none⟩)) := B0.cell (i := 0) rfl
  have HW := Lib.hid hW
  have HR := Lib.hid hR
  have C := Lib.hid (Cod.rerr_any P S d s W (h.keep k0 (by simp)))
  obtain ⟨cd, hcd⟩ : ∃ c, s.code = c := ⟨_, rfl⟩
  rw [hcd] at C hq
  clear hW hR hcd
  cases ok with
  | false =>
    go_enter Try.func85, Try.ntmps85
    go_upto_region 1 with fail
    rw [HW.out, HR.out]
    go_wp2_with (first
      | (go_at_call 107; refine C.out.mono ?_; rintro e w1 ⟨rfl, hR1, k1⟩)
      | fail)
    exact ⟨rfl, rfl, k0.trans' k1⟩
  | true =>
    have hq2 : cd ≠ 0 := by rcases hq with h | h; cases h; exact h
    have q : (cd != 0) = true := by simpa using hq2
    clear hq
    go_enter Try.func85, Try.ntmps85
    go_upto_region 1 with fail
    rw [HW.out, HR.out]
    go_wp2_with (first
      | (go_at_call 107; refine C.out.mono ?_; rintro e w1 ⟨rfl, hR1, k1⟩)
      | fail)
    exact ⟨rfl, rfl, k0.trans' k1⟩

set_option maxHeartbeats 1000000 in
set_option maxRecDepth 100000 in
theorem ask_yes (P : Nat) (S : List Nat) (d : List UInt8) (s : RS) (w : World) (h : RdAt w P S d s) (hq : s.code = 0) :
    Calls Try.prog 85 #[rdr P, .bool true] w fun e w' => e = .returned (.tuple #[]) ∧ Keep [] w w' := by
  have k0 : Keep [] w (w.alloc (.cells #[.pointer (some ⟨P, 0, none⟩)] 140)) := (Keep.refl [] w).alloc _
  have B0 : Blk (w.alloc (.cells #[.pointer (some ⟨P, 0, none⟩)] 140)) w.heap.size #[.pointer (some ⟨P, 0, none⟩)] 140 := Blk.new _ _ _
  obtain ⟨W, hW⟩ : ∃ W, w.alloc (.cells #[.pointer (some ⟨P, 0, none⟩)] 140) = W := ⟨_, rfl⟩
  obtain ⟨R, hR⟩ : ∃ R, w.heap.size = R := ⟨_, rfl⟩
  rw [hW] at k0 B0
  rw [hR] at B0
  have c0 : W.cell? ⟨R, 0, none⟩ = some (.pointer (some ⟨P, 0, none⟩)) := B0.cell (i := 0) rfl
  have HW := Lib.hid hW
  have HR := Lib.hid hR
  have C := Cod.rerr_any P S d s W (h.keep k0 (by simp))
  rw [hq] at C
  have HC := Lib.hid C
  clear hW hR C hq
  go_enter Try.func85, Try.ntmps85
  go_upto_region 1 with fail
  rw [HW.out, HR.out]
  go_wp2_with (first
    | (go_at_call 107; refine HC.out.mono ?_; rintro e w1 ⟨rfl, hR1, k1⟩)
    | fail)
  go_returns
  exact ⟨rfl, k0.trans' k1⟩
/-- ask, at any ok. -/
theorem ask_any (P : Nat) (S : List Nat) (d : List UInt8) (s : RS) (ok : Bool) (w : World) (h : RdAt w P S d s) :
    Calls Try.prog 85 #[rdr P, .bool ok] w fun e w' => e = (if ok = true ∧ s.code = 0 then .returned (.tuple #[]) else .panicked [gone]) ∧ Keep [] w w' := by
  by_cases hq : ok = true ∧ s.code = 0
  · obtain ⟨rfl, h0⟩ := hq
    rw [if_pos ⟨rfl, h0⟩]; exact ask_yes P S d s w h h0
  · rw [if_neg hq]
    refine ask_no P S d s ok w h ?_
    cases ok with
    | false => exact Or.inl rfl
    | true => exact Or.inr (fun e => hq ⟨rfl, e⟩)
end Go.Proofs.Ytpocegdlobnhaaa
end
section
/- in.id: one of that width. -/
set_option linter.unusedVariables false
set_option linter.unusedSimpArgs false
set_option maxRecDepth 100000
namespace Go.Proofs.Ytpocegdlobnhaaa
open Go.RowKit
open Cod (RdAt RS)
/-- Bytes, and noughts behind them. -/
def padId (ys : List UInt8) : List UInt8 := ys ++ List.replicate (32 - ys.length) 0
theorem padId_len {ys : List UInt8} (h : ys.length ≤ 32) : (padId ys).length = 32 := by simp [padId]; omega
theorem rRaw_len (d : List UInt8) (s : RS) (n : Nat) : (Cod.rRaw d s n).1.length ≤ n := by
  unfold Cod.rRaw; split
  · split
    · simp
    · split
      · simp
      · simp [List.length_take]; omega
  · simp
set_option maxHeartbeats 1000000 in
theorem id_any (P : Nat) (S : List Nat) (d : List UInt8) (s : RS) (wd : Nat) (w : World) (h : RdAt w P S d s) (hw1 : 1 ≤ wd) (hw : wd ≤ 32) :
    Calls Try.prog 88 #[rdr P, .int .i64 (wd : Nat)] w fun e w' => e = .returned (.agg (bs (padId (Cod.rRaw d s wd).1)).toArray) ∧ RdAt w' P S d (Cod.rRaw d s wd).2 ∧ Keep [P] w w' := by
  obtain ⟨ys, hys⟩ : ∃ ys, (Cod.rRaw d s wd).1 = ys := ⟨_, rfl⟩
  obtain ⟨s2, hs2⟩ : ∃ s2, (Cod.rRaw d s wd).2 = s2 := ⟨_, rfl⟩
  obtain ⟨m, hm⟩ : ∃ m, ys.length = m := ⟨_, rfl⟩
  have hmw : m ≤ wd := by rw [← hm, ← hys]; exact rRaw_len d s wd
  have HY := Lib.hid hm
  have HM := Lib.hid hmw
  have hC : ∀ W, Keep [] w W → Calls Try.prog 112 #[.pointer (some ⟨P, 0, none⟩), .int .i64 (wd : Nat)] W fun e w' => ∃ a c, e = .returned (.slice a m c) ∧ Sl w' 5 1 (.slice a m c) m (bs ys) ∧ RdAt w' P S d s2 ∧ Keep [P] W w' := fun W k => by
    refine (Cod.rraw_any P S d s wd W (h.keep k (by simp)) (by omega)).mono ?_
    rintro e w' ⟨a, c, h1, h2, -, h4, h5⟩
    rw [hys] at h1 h2
    rw [hm] at h1 h2
    rw [hs2] at h4
    exact ⟨a, c, h1, h2, h4, h5⟩
  rw [hys, hs2]
  have hPw : P < w.heap.size := h.lt P h.self
  have hSw0 : ∀ b ∈ S, b < w.heap.size := h.lt
  have HS := Lib.hid hSw0
  have k3 : Keep [] w (((w.alloc (.cells #[.pointer (some ⟨P, 0, none⟩)] 140)).alloc (.cells (bs (List.replicate 32 0)).toArray 26)).alloc (.cells (bs (List.replicate 32 0)).toArray 26)) := (((Keep.refl [] w).alloc _).alloc _).alloc _
  have B2 : Blk (((w.alloc (.cells #[.pointer (some ⟨P, 0, none⟩)] 140)).alloc (.cells (bs (List.replicate 32 0)).toArray 26)).alloc (.cells (bs (List.replicate 32 0)).toArray 26)) w.heap.size #[.pointer (some ⟨P, 0, none⟩)] 140 := ((Blk.new _ _ _).alloc _).alloc _
  have B4 : Blk (((w.alloc (.cells #[.pointer (some ⟨P, 0, none⟩)] 140)).alloc (.cells (bs (List.replicate 32 0)).toArray 26)).alloc (.cells (bs (List.replicate 32 0)).toArray 26)) (w.heap.size + 1) (bs (List.replicate 32 0)).toArray 26 := (Blk.new' _ _ _ (by simp)).alloc _
  have B5 : Blk (((w.alloc (.cells #[.pointer (some ⟨P, 0, none⟩)] 140)).alloc (.cells (bs (List.replicate 32 0)).toArray 26)).alloc (.cells (bs (List.replicate 32 0)).toArray 26)) (w.heap.size + 1 + 1) (bs (List.replicate 32 0)).toArray 26 := Blk.new' _ _ _ (by simp)
  obtain ⟨W, hW⟩ : ∃ W, (((w.alloc (.cells #[.pointer (some ⟨P, 0, none⟩)] 140)).alloc (.cells (bs (List.replicate 32 0)).toArray 26)).alloc (.cells (bs (List.replicate 32 0)).toArray 26)) = W := ⟨_, rfl⟩
  obtain ⟨R, hR⟩ : ∃ R, w.heap.size = R := ⟨_, rfl⟩
  obtain ⟨p4, hp4⟩ : ∃ R, w.heap.size + 1 = R := ⟨_, rfl⟩
  obtain ⟨p5, hp5⟩ : ∃ R, w.heap.size + 1 + 1 = R := ⟨_, rfl⟩
  rw [hW] at k3 B2 B4 B5
  rw [hR] at B2
  rw [hp4] at B4
  rw [hp5] at B5
  have HNE := Lib.hid (show R ≠ P ∧ p4 ≠ P ∧ p5 ≠ P by omega)
  have HN5 := Lib.hid (show R ≠ p5 ∧ p4 ≠ p5 by omega)
  have HG := Lib.hid (show w.heap.size ≤ p4 ∧ w.heap.size ≤ p5 by omega)
  have HW := Lib.hid hW
  have HR := Lib.hid hR
  have HP4 := Lib.hid hp4
  have HP5 := Lib.hid hp5
  have ke : W.drew.cell? ⟨R, 0, none⟩ = some (.pointer (some ⟨P, 0, none⟩)) := (B2.keep ((Keep.refl [] W).drew) (by simp)).cell (i := 0) rfl
  have C := Lib.hid (hC W.drew (k3.trans' ((Keep.refl [] W).drew)))
  replace B4 := B4.keep ((Keep.refl [] W).drew) (by simp)
  replace B5 := B5.keep ((Keep.refl [] W).drew) (by simp)
  have i1 : (0 : Int) ≤ wd := by omega
  have i2 : (wd : Int) ≤ 32 := by omega
  clear hm hys hs2 hW hR hp4 hp5 hC hmw h B2 hPw hSw0
  go_enter Try.func88, Try.ntmps88
  go_upto_region 2 with fail
  rw [HP5.out, HP4.out, HR.out]
  change Code.wp _ _ _ _ (((w.alloc (.cells #[.pointer (some ⟨P, 0, none⟩)] 140)).alloc (.cells (bs (List.replicate 32 0)).toArray 26)).alloc (.cells (bs (List.replicate 32 0)).toArray 26))
  rw [HW.out]
  refine wp_region_noPanic ?_
  refine wp_region_held_drew (S := fun w' => w'.cell? ⟨R, 0, none⟩ = some (.pointer (some ⟨P, 0, none⟩))) (by kernel_rfl) ?_ (fun hHeld0 => ?_)
  · (try dsimp only); exact ke
  refine wpAnyH_take (i := 0) (oi := ({ dst := some 6, op := .move (.tmp 1), type := 3, pos := "delta.go:110", after := #[], guard := none } : Oper)) (v := ?_) rfl (by kernel_rfl) (by kernel_rfl) (by kernel_rfl) (fun _ _ _ h => h) (Or.inl ⟨by rfl, ?_⟩) (by assumption) ?_
  rotate_left
  · (intro w hSw; (try dsimp only at hSw); go_simp; try with_reducible rfl)
  try simp only [Act.put, List.setIfInBounds_toArray, List.set_cons_zero, List.set_cons_succ]
  refine wpAnyH_take (i := 1) (oi := ({ dst := some 7, op := .slice 26 (.tmp 5) none (some (.tmp 6)) none, type := 22, pos := "delta.go:110", after := #[{ on := 0, ground := .data }], guard := none } : Oper)) (v := ?_) rfl (by kernel_rfl) (by kernel_rfl) (by kernel_rfl) (fun _ _ _ h => h) (Or.inl ⟨by rfl, ?_⟩) (by assumption) ?_
  rotate_left
  · (intro w hSw; (try dsimp only at hSw); go_simp; try with_reducible rfl)
  try simp only [Act.put, List.setIfInBounds_toArray, List.set_cons_zero, List.set_cons_succ]
  refine wpAnyH_take (i := 2) (oi := ({ dst := some 8, op := .fieldAddr 140 (.tmp 2) 0, type := 0, pos := "delta.go:110", after := #[], guard := none } : Oper)) (v := ?_) rfl (by kernel_rfl) (by kernel_rfl) (by kernel_rfl) (fun _ _ _ h => h) (Or.inl ⟨by rfl, ?_⟩) (by assumption) ?_
  rotate_left
  · (intro w hSw; (try dsimp only at hSw); go_simp; try with_reducible rfl)
  try simp only [Act.put, List.setIfInBounds_toArray, List.set_cons_zero, List.set_cons_succ]
  refine wpAnyH_take (i := 3) (oi := ({ dst := some 9, op := .load 138 (.tmp 8), type := 138, pos := "delta.go:110", after := #[{ on := 2, ground := .data }], guard := none } : Oper)) (v := ?_) rfl (by kernel_rfl) (by kernel_rfl) (by kernel_rfl) (fun _ _ _ h => h) (Or.inl ⟨by rfl, ?_⟩) (by assumption) ?_
  rotate_left
  · (intro w hSw; (try dsimp only at hSw); have c1 := hSw; go_simp; try with_reducible rfl)
  try simp only [Act.put, List.setIfInBounds_toArray, List.set_cons_zero, List.set_cons_succ]
  refine wpAnyH_take (i := 4) (oi := ({ dst := some 10, op := .move (.tmp 1), type := 3, pos := "delta.go:110", after := #[], guard := none } : Oper)) (v := ?_) rfl (by kernel_rfl) (by kernel_rfl) (by kernel_rfl) (fun _ _ _ h => h) (Or.inl ⟨by rfl, ?_⟩) (by assumption) ?_
  rotate_left
  · (intro w hSw; (try dsimp only at hSw); go_simp; try with_reducible rfl)
  try simp only [Act.put, List.setIfInBounds_toArray, List.set_cons_zero, List.set_cons_succ]
  refine wpAnyH_ready (rs := [5]) (by kernel_rfl) (by simp) ?_
  refine (AllReadyH.cons (o := ({ dst := some 11, op := .call { callee := .value (.func 112), args := #[.tmp 9, .tmp 10], argTypes := #[138, 3] }, type := 22, pos := "delta.go:110", after := #[{ on := 3, ground := .data }, { on := 4, ground := .data }], guard := none } : Oper)) rfl (fun K hK => ?_) AllReadyH.nil)
  go_simp
  (refine C.out.mono ?_; rintro e w' ⟨a5, c5, rfl, hs5, hr5, hk5⟩; have ke := hk5.cell ke (fun h => HNE.out.1 (List.mem_singleton.1 h)); have B4 := B4.keep hk5 (fun h => HNE.out.2.1 (List.mem_singleton.1 h)); have B5 := B5.keep hk5 (fun h => HNE.out.2.2 (List.mem_singleton.1 h)); have hu5 := hs5.use)
  go_wp2_with fail
  refine hK.out _ _ ?_ (fun hHeld1 => ?_)
  · (try dsimp only); exact ke
  clear hK K
  try simp only [Act.put, List.setIfInBounds_toArray, List.set_cons_zero, List.set_cons_succ]
  refine wpAnyH_ready (rs := [6]) (by kernel_rfl) (by simp) ?_
  refine (AllReadyH.cons (o := ({ dst := some 12, op := .call { callee := .builtin .copy, args := #[.tmp 7, .tmp 11], argTypes := #[22, 22] }, type := 3, pos := "delta.go:110", after := #[{ on := 1, ground := .data }, { on := 5, ground := .data }, { on := 5, ground := .chain }], guard := none } : Oper)) rfl (fun K hK => ?_) AllReadyH.nil)
  (refine Dig.step_copyB rfl (.tmp 7) (.tmp 11) 22 22 rfl 5 Try.underlying22 Dig.size5 (some ⟨p5, 0, none⟩) a5 wd 32 m c5 rfl rfl p5 0 (bs (List.replicate 32 0)) 26 B5 (bs ys) (by rw [bs_length, HY.out]; exact (Nat.min_eq_left HM.out).symm) (fun _ => rfl) hu5.2.2.1 (by rw [bs_length, bs_length, HY.out, List.length_replicate]; have := HM.out; omega) (bs_one ys) ?_; intro w6 hB6 hk6; have ke := hk6.cell ke (fun h => HN5.out.1 (List.mem_singleton.1 h)); have B4 := B4.keep hk6 (fun h => HN5.out.2 (List.mem_singleton.1 h)))
  refine hK.out _ _ ?_ (fun hHeld2 => ?_)
  · (try dsimp only); exact ke
  clear hK K
  try simp only [Act.put, List.setIfInBounds_toArray, List.set_cons_zero, List.set_cons_succ]
  refine wpAnyH_done (by kernel_rfl) ?_ _
  refine NoPanic.normal ?_
  skip
  have eB : ((bs (List.replicate 32 0)).take 0 ++ (bs ys ++ (bs (List.replicate 32 0)).drop (0 + (bs ys).length))) = bs (padId ys) := by
    rw [padId, bs_append, bs_length, HY.out, List.take_zero, List.nil_append, Nat.zero_add]
    simp only [bs, List.map_replicate, List.drop_replicate]
  have B6 := hB6.out
  rw [eB] at B6
  have hpl : (padId ys).length = 32 := padId_len (by rw [HY.out]; exact Nat.le_trans HM.out hw)
  have r6 := rangeAt_of_blk B6
  have HI := Lib.hid (hi26 hpl)
  have HI' := Lib.hid hpl
  have hlr := Lib.hid (show (bs (List.replicate 32 0)).length = (bs (padId ys)).length by rw [bs_length, bs_length, HI'.out, List.length_replicate])
  have hon : Hid (∀ v ∈ bs (padId ys), v.oneCell' = true) := Lib.hid (bs_one _)
  obtain ⟨pl, hpl'⟩ : ∃ pl, bs (padId ys) = pl := ⟨_, rfl⟩
  rw [hpl'] at r6 HI hlr hon
  have HPL := Lib.hid hpl'
  clear hpl' eB B6 hpl
  go_wp2_with (first
    | (refine wpList_load_mid rfl 26 (.tmp 5) rfl p5 0 rfl pl _ r6 Try.underlying26 rfl HI.out ?_)
    | (refine wpList_storeAll rfl 26 (.tmp 4) (.tmp 13) rfl p4 26 pl (bs (List.replicate 32 0)) rfl rfl B4 hlr.out hon.out HI.out ?_; intro w7 B7 k7)
    | fail)
  have q5 : p5 ∉ S := fun h => by have := HS.out _ h; have := HG.out; omega
  have q4 : p4 ∉ S := fun h => by have := HS.out _ h; have := HG.out; omega
  have kA : Keep [P] w w' := Keep.trans (S := [P]) ((k3.trans' ((Keep.refl [] W).drew)).mono (by simp)) hk5 (fun b hb => Or.inl hb)
  have kB : Keep [P] w w6 := kA.trans hk6 (fun b hb => Or.inr (by rw [List.mem_singleton.1 hb]; exact HG.out.2))
  have kC : Keep [P] w w7 := kB.trans k7 (fun b hb => Or.inr (by rw [List.mem_singleton.1 hb]; exact HG.out.1))
  have hr7 : RdAt w7 P S d s2 := (hr5.keep hk6 (fun b hb h => q5 (List.mem_singleton.1 h ▸ hb))).keep k7 (fun b hb h => q4 (List.mem_singleton.1 h ▸ hb))
  exact bodyPost_ret (results_cell_row rfl _ _ p4 26 pl.toArray (0, 0) _ rfl B7 Try.underlying26 rfl (by simpa using HI.out)) rfl ⟨by rw [HPL.out], hr7, kC⟩
end Go.Proofs.Ytpocegdlobnhaaa
end
section
/- caught: it recovers; checked: a reader of what stands ahead of the sum. -/
set_option linter.unusedVariables false
set_option linter.unusedSimpArgs false
set_option maxRecDepth 100000
namespace Go.Proofs.Ytpocegdlobnhaaa
open Go.RowKit
open Cod (RdAt RS)
def goneR : PanicEntry := { v := .iface 167 (.agg #[]), recovered := true }

set_option maxHeartbeats 1000000 in
theorem catch_idle (p : Addr) (w : World) :
    CallsD Try.prog 83 #[.pointer (some p)] .returning w fun e u' w' => e = .returned (.tuple #[]) ∧ u' = .returning ∧ w' = w := by
  refine callsD_of_wpS Try.func83 rfl fun c₀ cs hu => ?_
  apply wpS_seq
  apply wpS_region
  simp [wpOpsS, go_sem, recoverD, hu, Try.ntmps83, Exit.thenS]
  apply wpS_seq
  apply wpS_region
  simp [wpOpsS, go_sem, Exit.thenS]
  refine wpS_cond (t := false) (by simp [Act.eval, Array.replicate]) ?_
  simp only [Bool.false_eq_true, if_false]
  refine wpS_of_wp (wp_skip ?_)
  cases c₀
  simp_all [bodyPostS, results, Try.results83]

set_option maxHeartbeats 1000000 in
theorem catch_gone (p : Nat) (w : World) (x : Value) (hp : Blk w p #[x] 4) :
    CallsD Try.prog 83 #[.pointer (some ⟨p, 0, none⟩)] (.panicking [gone]) w fun e u' w' => e = .returned (.tuple #[]) ∧ u' = .panicking [goneR] ∧ Blk w' p #[.bool false] 4 ∧ Keep [p] w w' := by
  refine callsD_of_wpS Try.func83 rfl fun c₀ cs hu => ?_
  unfold gone at hu
  apply wpS_seq
  apply wpS_region
  simp [wpOpsS, go_sem, recoverD, hu, Try.ntmps83, Exit.thenS]
  apply wpS_seq
  apply wpS_region
  simp [wpOpsS, go_sem, Exit.thenS]
  refine wpS_of_wp ?_
  change Code.wp _ _ _ { tmps := #[Value.pointer (some ⟨p, 0, none⟩), undef, Value.iface 167 (Value.agg #[]), undef, undef, Value.iface 167 (Value.agg #[]), Value.iface 167 (Value.agg #[]), Value.bool true, undef, undef, undef, undef, undef, undef, undef, undef, undef, undef], defers := [] } _
  generalize hQ : (fun e a' w' => bodyPostS Try.prog Try.f83 _ _ _ e a' _ w') = Q
  have HQ := Lib.hid hQ
  clear hQ hu
  have hta : ∀ w, (Instr.typeAssert (.iface 167 (.agg #[])) 20 167 true).run Try.prog w = .ok (.tuple #[.agg #[], .bool true]) w := fun w => by kernel_rfl
  have hp1 := hp.alloc (.cells #[] 167)
  have k1 : Keep [p] w (w.alloc (.cells #[] 167)) := (Keep.refl [p] w).alloc _
  go_upto_region 5 with fail
  generalize w.alloc (.cells #[] 167) = W1 at hp1 k1 ⊢
  have hp2 := hp1.set 0 (.bool false)
  have k3 := k1.set (a := ⟨p, 0, none⟩) (Or.inl (by simp)) (.bool false)
  have c1 := hp1.cell (i := 0) rfl
  have f1 := hp1.free (i := 0)
  go_wp2_with fail
  rw [← HQ.out]
  simp_all [bodyPostS, results, Try.results83, goneR]

/-- Are these bytes with their sum behind them? -/
def ckO (d : List UInt8) : Bool := decide (4 ≤ d.length ∧ d.length ≤ 131072 ∧ (Cod.rFixed (d.drop (d.length - 4)) ⟨0, 0, 0⟩ 4).1 = Cod.crc (d.take (d.length - 4)))
theorem ckO_len {d : List UInt8} (h : ckO d = true) : 4 ≤ d.length ∧ d.length ≤ 131072 ∧ (Cod.rFixed (d.drop (d.length - 4)) ⟨0, 0, 0⟩ 4).1 = Cod.crc (d.take (d.length - 4)) := of_decide_eq_true h
/-- The reader of the sum. -/
theorem end_rd {W : World} {b off m c : Nat} {d : List UInt8} (hIn : InBytes W (some ⟨b, off + m, none⟩) 4 c ((d.drop m).take 4)) (hd : d.length = m + 4) : ∀ W', Keep [] W W' → Calls Try.prog 106 #[.slice (some ⟨b, off + m, none⟩) 4 c] W' fun e w' => ∃ P S, e = .returned (.pointer (some ⟨P, 0, none⟩)) ∧ RdAt w' P S (d.drop m) ⟨0, 0, 0⟩ ∧ Fr W' [] S ∧ Keep [] W' w' := fun W' k => by
  have h := hIn.keep k (by simp)
  have e : (d.drop m).take 4 = d.drop m := List.take_of_length_le (by rw [List.length_drop]; omega)
  rw [e] at h
  exact Cod.read_any _ _ _ _ W' h.hlen h.hnil h.rd (by omega)
set_option maxHeartbeats 2000000 in
theorem checked_no (a : Option Addr) (n c : Nat) (d : List UInt8) (w : World) (hx : InBytes w a n c d) (hck : ckO d = false) :
    Calls Try.prog 84 #[.slice a n c] w fun e w' => e = .panicked [gone] ∧ Keep [] w w' := by
  have k0 : Keep [] w (w.alloc (.cells #[.pointer none] 140)) := (Keep.refl [] w).alloc _
  have hle := hx.hle
  have hsh := hx.short
  by_cases h1 : n < 4
  · have d1 : decide ((n : Int) < 4) = true := decide_eq_true (by omega)
    clear hx hck
    go_enter Try.func84, Try.ntmps84
    go_wp2_with fail
    exact ⟨rfl, rfl, k0⟩
  have d1 : decide ((n : Int) < 4) = false := decide_eq_false (by omega)
  by_cases h2 : 131072 < n
  · have d2 : decide ((131072 : Int) < n) = true := decide_eq_true (by omega)
    clear hx hck
    go_enter Try.func84, Try.ntmps84
    go_wp2_with fail
    exact ⟨rfl, rfl, k0⟩
  have d2 : decide ((131072 : Int) < n) = false := decide_eq_false (by omega)
  obtain ⟨m, hm⟩ : ∃ m, n = m + 4 := ⟨n - 4, by omega⟩
  have hl := hx.hlen
  have hxW := hx.keep k0 (by simp)
  have hxW2 := hxW
  obtain ⟨W, hW⟩ : ∃ W, w.alloc (.cells #[.pointer none] 140) = W := ⟨_, rfl⟩
  rw [hW] at k0 hxW hxW2
  obtain ⟨b, off, rfl, hIn⟩ := in_part hxW2 (o := m) (m := 4) (by omega) (by omega)
  have RD := Lib.hid (end_rd hIn (by omega))
  have hck2 : (Cod.rFixed (d.drop m) ⟨0, 0, 0⟩ 4).1 ≠ Cod.crc (d.take m) := by
    intro e; have := of_decide_eq_false hck; exact this ⟨by omega, by omega, by rw [show d.length - 4 = m by omega]; exact e⟩
  obtain ⟨a1, s1, e1⟩ : ∃ a1 s1, Cod.rFixed (d.drop m) ⟨0, 0, 0⟩ 4 = (a1, s1) := ⟨_, _, rfl⟩
  have RF := Lib.hid (fun P S W h => by have := Cod.rfixed_any P S (d.drop m) ⟨0, 0, 0⟩ 4 W h; rw [e1] at this; exact this : ∀ P S W, RdAt W P S (d.drop m) ⟨0, 0, 0⟩ → Calls Try.prog 86 #[.pointer (some ⟨P, 0, none⟩), .int .i64 4] W fun e w' => e = .returned (.int .i64 (a1 : Nat)) ∧ RdAt w' P S (d.drop m) s1 ∧ Keep [P] W w')
  rw [e1] at hck2
  obtain ⟨cr, hcr⟩ : ∃ cr, Cod.crc (d.take m) = cr := ⟨_, rfl⟩
  have SU := Lib.hid (fun W' k => by
    have := Cod.sum_any (some ⟨b, off, none⟩) m c (d.take m) W' (by rw [List.length_take]; omega) (by omega) (rd_take (hxW.keep k (by simp)).rd m); rw [hcr] at this; exact this : ∀ W', Keep [] W W' → Calls Try.prog 101 #[.slice (some ⟨b, off, none⟩) m c] W' fun e w' => e = .returned (.int .i64 (cr : Nat)) ∧ Keep [] W' w')
  rw [hcr] at hck2
  have q0 : ((a1 : Int) != (cr : Int)) = true := by simp only [bne_iff_ne, ne_eq]; intro h; exact hck2 (by exact_mod_cast h)
  have q1 : (n : Int) - 4 = m := by omega
  have q2 : IntKind.i64.wrap (m : Int) = m := IntWalk.i64_in _ (by omega)
  have q3 : n - m = 4 := by omega
  have q4 : (m : Int) ≤ c := by omega
  have q5 : (m : Int) ≤ n := by omega
  have q6 : ¬ c = m := by omega
  have q7 : (0 : Int) ≤ m := by omega
  have HW := Lib.hid hW
  clear hck hck2 hx hxW hxW2 hIn hl hm e1 hcr hW
  go_enter Try.func84, Try.ntmps84
  go_upto_region 3 with fail
  rw [HW.out]
  have ke : Keep [] W W.drew := (Keep.refl [] W).drew
  refine wp_region_noPanic ?_
  refine wp_region_held_drew (S := fun _ => True) (by kernel_rfl) ?_ (fun hHeld0 => ?_)
  · (try dsimp only); all_goals trivial
  refine wpAnyH_take (i := 0) (oi := ({ dst := some 15, op := .move (.tmp 0), type := 22, pos := "delta.go:119", after := #[], guard := none } : Oper)) (v := ?_) rfl (by kernel_rfl) (by kernel_rfl) (by kernel_rfl) (fun _ _ _ h => h) (Or.inl ⟨by rfl, ?_⟩) (by assumption) ?_
  rotate_left
  · (intro w hSw; (try dsimp only at hSw); go_simp; try with_reducible rfl)
  try simp only [Act.put, List.setIfInBounds_toArray, List.set_cons_zero, List.set_cons_succ]
  refine wpAnyH_take (i := 1) (oi := ({ dst := some 16, op := .move (.tmp 0), type := 22, pos := "delta.go:119", after := #[], guard := none } : Oper)) (v := ?_) rfl (by kernel_rfl) (by kernel_rfl) (by kernel_rfl) (fun _ _ _ h => h) (Or.inl ⟨by rfl, ?_⟩) (by assumption) ?_
  rotate_left
  · (intro w hSw; (try dsimp only at hSw); go_simp; try with_reducible rfl)
  try simp only [Act.put, List.setIfInBounds_toArray, List.set_cons_zero, List.set_cons_succ]
  refine wpAnyH_take (i := 2) (oi := ({ dst := some 17, op := .call { callee := .builtin .len, args := #[.tmp 16], argTypes := #[22] }, type := 3, pos := "delta.go:119", after := #[{ on := 1, ground := .data }], guard := none } : Oper)) (v := ?_) rfl (by kernel_rfl) (by kernel_rfl) (by kernel_rfl) (fun _ _ _ h => h) (Or.inl ⟨by rfl, ?_⟩) (by assumption) ?_
  rotate_left
  · (intro w hSw; (try dsimp only at hSw); go_simp; try with_reducible rfl)
  try simp only [Act.put, List.setIfInBounds_toArray, List.set_cons_zero, List.set_cons_succ]
  refine wpAnyH_take (i := 3) (oi := ({ dst := some 18, op := .binOp .sub 3 (.tmp 17) (.const (.int .i64 4)) 3, type := 3, pos := "delta.go:119", after := #[{ on := 2, ground := .data }], guard := none } : Oper)) (v := ?_) rfl (by kernel_rfl) (by kernel_rfl) (by kernel_rfl) (fun _ _ _ h => h) (Or.inl ⟨by rfl, ?_⟩) (by assumption) ?_
  rotate_left
  · (intro w hSw; (try dsimp only at hSw); go_simp; try with_reducible rfl)
  try simp only [Act.put, List.setIfInBounds_toArray, List.set_cons_zero, List.set_cons_succ]
  refine wpAnyH_take (i := 4) (oi := ({ dst := some 19, op := .slice 22 (.tmp 15) none (some (.tmp 18)) none, type := 22, pos := "delta.go:119", after := #[{ on := 0, ground := .data }, { on := 3, ground := .data }], guard := none } : Oper)) (v := ?_) rfl (by kernel_rfl) (by kernel_rfl) (by kernel_rfl) (fun _ _ _ h => h) (Or.inl ⟨by rfl, ?_⟩) (by assumption) ?_
  rotate_left
  · (intro w hSw; (try dsimp only at hSw); go_simp; try with_reducible rfl)
  try simp only [Act.put, List.setIfInBounds_toArray, List.set_cons_zero, List.set_cons_succ]
  refine wpAnyH_take (i := 5) (oi := ({ dst := some 20, op := .move (.tmp 0), type := 22, pos := "delta.go:119", after := #[], guard := none } : Oper)) (v := ?_) rfl (by kernel_rfl) (by kernel_rfl) (by kernel_rfl) (fun _ _ _ h => h) (Or.inl ⟨by rfl, ?_⟩) (by assumption) ?_
  rotate_left
  · (intro w hSw; (try dsimp only at hSw); go_simp; try with_reducible rfl)
  try simp only [Act.put, List.setIfInBounds_toArray, List.set_cons_zero, List.set_cons_succ]
  refine wpAnyH_take (i := 6) (oi := ({ dst := some 21, op := .move (.tmp 0), type := 22, pos := "delta.go:119", after := #[], guard := none } : Oper)) (v := ?_) rfl (by kernel_rfl) (by kernel_rfl) (by kernel_rfl) (fun _ _ _ h => h) (Or.inl ⟨by rfl, ?_⟩) (by assumption) ?_
  rotate_left
  · (intro w hSw; (try dsimp only at hSw); go_simp; try with_reducible rfl)
  try simp only [Act.put, List.setIfInBounds_toArray, List.set_cons_zero, List.set_cons_succ]
  refine wpAnyH_take (i := 7) (oi := ({ dst := some 22, op := .call { callee := .builtin .len, args := #[.tmp 21], argTypes := #[22] }, type := 3, pos := "delta.go:119", after := #[{ on := 6, ground := .data }], guard := none } : Oper)) (v := ?_) rfl (by kernel_rfl) (by kernel_rfl) (by kernel_rfl) (fun _ _ _ h => h) (Or.inl ⟨by rfl, ?_⟩) (by assumption) ?_
  rotate_left
  · (intro w hSw; (try dsimp only at hSw); go_simp; try with_reducible rfl)
  try simp only [Act.put, List.setIfInBounds_toArray, List.set_cons_zero, List.set_cons_succ]
  refine wpAnyH_take (i := 8) (oi := ({ dst := some 23, op := .binOp .sub 3 (.tmp 22) (.const (.int .i64 4)) 3, type := 3, pos := "delta.go:119", after := #[{ on := 7, ground := .data }], guard := none } : Oper)) (v := ?_) rfl (by kernel_rfl) (by kernel_rfl) (by kernel_rfl) (fun _ _ _ h => h) (Or.inl ⟨by rfl, ?_⟩) (by assumption) ?_
  rotate_left
  · (intro w hSw; (try dsimp only at hSw); go_simp; try with_reducible rfl)
  try simp only [Act.put, List.setIfInBounds_toArray, List.set_cons_zero, List.set_cons_succ]
  refine wpAnyH_take (i := 9) (oi := ({ dst := some 24, op := .slice 22 (.tmp 20) (some (.tmp 23)) none none, type := 22, pos := "delta.go:119", after := #[{ on := 5, ground := .data }, { on := 8, ground := .data }], guard := none } : Oper)) (v := ?_) rfl (by kernel_rfl) (by kernel_rfl) (by kernel_rfl) (fun _ _ _ h => h) (Or.inl ⟨by rfl, ?_⟩) (by assumption) ?_
  rotate_left
  · (intro w hSw; (try dsimp only at hSw); go_simp; try with_reducible rfl)
  try simp only [Act.put, List.setIfInBounds_toArray, List.set_cons_zero, List.set_cons_succ]
  refine wpAnyH_ready (rs := [10]) (by kernel_rfl) (by simp) ?_
  refine (AllReadyH.cons (o := ({ dst := some 25, op := .call { callee := .value (.func 106), args := #[.tmp 24], argTypes := #[22] }, type := 138, pos := "delta.go:119", after := #[{ on := 9, ground := .data }], guard := none } : Oper)) rfl (fun K hK => ?_) AllReadyH.nil)
  go_simp
  (refine (RD.out _ ke).mono ?_; rintro e w1 ⟨P, S, rfl, hR1, hF1, k1⟩)
  go_wp2_with fail
  refine hK.out _ _ ?_ (fun hHeld1 => ?_)
  · (try dsimp only); all_goals trivial
  clear hK K
  try simp only [Act.put, List.setIfInBounds_toArray, List.set_cons_zero, List.set_cons_succ]
  refine wpAnyH_take (i := 11) (oi := ({ dst := some 3, op := .assign (.tmp 19), type := 22, pos := "delta.go:119", after := #[{ on := 4, ground := .data }, { on := 10, ground := .chain }, { on := 0, ground := .phase }, { on := 1, ground := .phase }, { on := 2, ground := .phase }, { on := 3, ground := .phase }, { on := 4, ground := .phase }, { on := 5, ground := .textOnly .lateStores }, { on := 6, ground := .textOnly .lateStores }, { on := 7, ground := .textOnly .lateStoresUnsure }, { on := 8, ground := .textOnly .lateStores }, { on := 9, ground := .textOnly .lateStoresUnsure }, { on := 10, ground := .textOnly .lateStoresUnsure }], guard := none } : Oper)) (v := ?_) rfl (by kernel_rfl) (by kernel_rfl) (by kernel_rfl) (fun _ _ _ h => h) (Or.inl ⟨by rfl, ?_⟩) (by assumption) ?_
  rotate_left
  · (intro w hSw; (try dsimp only at hSw); go_simp; try with_reducible rfl)
  try simp only [Act.put, List.setIfInBounds_toArray, List.set_cons_zero, List.set_cons_succ]
  refine wpAnyH_take (i := 12) (oi := ({ dst := some 4, op := .assign (.tmp 25), type := 138, pos := "delta.go:119", after := #[{ on := 10, ground := .data }, { on := 11, ground := .chain }, { on := 0, ground := .phase }, { on := 1, ground := .phase }, { on := 2, ground := .phase }, { on := 3, ground := .phase }, { on := 4, ground := .phase }, { on := 5, ground := .phase }, { on := 6, ground := .phase }, { on := 7, ground := .phase }, { on := 8, ground := .phase }, { on := 9, ground := .phase }, { on := 10, ground := .phase }, { on := 11, ground := .phase }], guard := none } : Oper)) (v := ?_) rfl (by kernel_rfl) (by kernel_rfl) (by kernel_rfl) (fun _ _ _ h => h) (Or.inl ⟨by rfl, ?_⟩) (by assumption) ?_
  rotate_left
  · (intro w hSw; (try dsimp only at hSw); go_simp; try with_reducible rfl)
  try simp only [Act.put, List.setIfInBounds_toArray, List.set_cons_zero, List.set_cons_succ]
  refine wpAnyH_done (by kernel_rfl) ?_ _
  refine NoPanic.normal ?_
  skip
  have ke1 := ke.trans' k1
  have hwP : W.heap.size ≤ P := by have := fr_old hF1 P hR1.self; have := ke.size; omega
  have ke2 := k0.trans' ke1
  go_wp2_with (first
    | (go_at_call 86; refine (RF.out P S _ hR1).mono ?_; rintro e w2 ⟨rfl, hR2, k2⟩)
    | (go_at_call 101; refine (SU.out _ (Keep.trans (S := []) ke1 k2 (fun b hb => by simp only [List.mem_singleton] at hb; subst hb; exact Or.inr hwP))).mono ?_; rintro e w3 ⟨rfl, k3⟩)
    | fail)
  have k0s := k0.size
  exact ⟨rfl, rfl, ((ke2.trans k2 (fun b hb => by simp only [List.mem_singleton] at hb; subst hb; exact Or.inr (Nat.le_trans k0s hwP)))).trans' k3⟩
set_option maxHeartbeats 2000000 in
theorem checked_yes (a : Option Addr) (n c : Nat) (d : List UInt8) (w : World) (hx : InBytes w a n c d) (hck : ckO d = true) :
    Calls Try.prog 84 #[.slice a n c] w fun e w' => ∃ P S, e = .returned (rdr P) ∧ RdAt w' P S (d.take (n - 4)) ⟨0, 0, 0⟩ ∧ Fr w [] S ∧ Keep [] w w' := by
  have k0 : Keep [] w (w.alloc (.cells #[.pointer none] 140)) := (Keep.refl [] w).alloc _
  have hle := hx.hle
  have hsh := hx.short
  have hl := hx.hlen
  obtain ⟨g1, g2, g3⟩ := ckO_len hck
  have d1 : decide ((n : Int) < 4) = false := decide_eq_false (by omega)
  have d2 : decide ((131072 : Int) < n) = false := decide_eq_false (by omega)
  obtain ⟨m, hm⟩ : ∃ m, n = m + 4 := ⟨n - 4, by omega⟩
  have hxW := hx.keep k0 (by simp)
  have hxW2 := hxW
  obtain ⟨W, hW⟩ : ∃ W, w.alloc (.cells #[.pointer none] 140) = W := ⟨_, rfl⟩
  rw [hW] at k0 hxW hxW2
  obtain ⟨b, off, rfl, hIn⟩ := in_part hxW2 (o := m) (m := 4) (by omega) (by omega)
  have RD := Lib.hid (end_rd hIn (by omega))
  have hm4 : d.length - 4 = m := by omega
  rw [hm4] at g3
  have hnm : n - 4 = m := by omega
  rw [hnm]
  have B0 : Blk W w.heap.size #[.pointer none] 140 := by rw [← hW]; exact Blk.new _ _ _
  obtain ⟨R, hR⟩ : ∃ R, w.heap.size = R := ⟨_, rfl⟩
  rw [hR] at B0
  have HR := Lib.hid hR
  obtain ⟨a1, s1, e1⟩ : ∃ a1 s1, Cod.rFixed (d.drop m) ⟨0, 0, 0⟩ 4 = (a1, s1) := ⟨_, _, rfl⟩
  have RF := Lib.hid (fun P S W h => by have := Cod.rfixed_any P S (d.drop m) ⟨0, 0, 0⟩ 4 W h; rw [e1] at this; exact this : ∀ P S W, RdAt W P S (d.drop m) ⟨0, 0, 0⟩ → Calls Try.prog 86 #[.pointer (some ⟨P, 0, none⟩), .int .i64 4] W fun e w' => e = .returned (.int .i64 (a1 : Nat)) ∧ RdAt w' P S (d.drop m) s1 ∧ Keep [P] W w')
  rw [e1] at g3
  obtain ⟨cr, hcr⟩ : ∃ cr, Cod.crc (d.take m) = cr := ⟨_, rfl⟩
  have SU := Lib.hid (fun W' k => by
    have := Cod.sum_any (some ⟨b, off, none⟩) m c (d.take m) W' (by rw [List.length_take]; omega) (by omega) (rd_take (hxW.keep k (by simp)).rd m); rw [hcr] at this; exact this : ∀ W', Keep [] W W' → Calls Try.prog 101 #[.slice (some ⟨b, off, none⟩) m c] W' fun e w' => e = .returned (.int .i64 (cr : Nat)) ∧ Keep [] W' w')
  rw [hcr] at g3
  have q0 : ((a1 : Int) != (cr : Int)) = false := by simp only [bne_eq_false_iff_eq]; exact congrArg Nat.cast g3
  have RB := Lib.hid (fun W' k => by have h := hxW.keep k (by simp); exact Cod.read_any (some ⟨b, off, none⟩) m c (d.take m) W' (by rw [List.length_take]; omega) h.hnil (rd_take h.rd m) (by omega) : ∀ W', Keep [] W W' → Calls Try.prog 106 #[.slice (some ⟨b, off, none⟩) m c] W' fun e w' => ∃ P S, e = .returned (.pointer (some ⟨P, 0, none⟩)) ∧ RdAt w' P S (d.take m) ⟨0, 0, 0⟩ ∧ Fr W' [] S ∧ Keep [] W' w')
  have q1 : (n : Int) - 4 = m := by omega
  have q2 : IntKind.i64.wrap (m : Int) = m := IntWalk.i64_in _ (by omega)
  have q3 : n - m = 4 := by omega
  have q4 : (m : Int) ≤ c := by omega
  have q5 : (m : Int) ≤ n := by omega
  have q6 : ¬ c = m := by omega
  have q7 : (0 : Int) ≤ m := by omega
  have HW := Lib.hid hW
  clear hck g1 g2 g3 hx hxW hxW2 hIn hl hm e1 hcr hW hR hm4 hnm
  go_enter Try.func84, Try.ntmps84
  go_upto_region 3 with fail
  rw [HW.out, HR.out]
  have ke : Keep [] W W.drew := (Keep.refl [] W).drew
  refine wp_region_noPanic ?_
  refine wp_region_held_drew (S := fun _ => True) (by kernel_rfl) ?_ (fun hHeld0 => ?_)
  · (try dsimp only); all_goals trivial
  refine wpAnyH_take (i := 0) (oi := ({ dst := some 15, op := .move (.tmp 0), type := 22, pos := "delta.go:119", after := #[], guard := none } : Oper)) (v := ?_) rfl (by kernel_rfl) (by kernel_rfl) (by kernel_rfl) (fun _ _ _ h => h) (Or.inl ⟨by rfl, ?_⟩) (by assumption) ?_
  rotate_left
  · (intro w hSw; (try dsimp only at hSw); go_simp; try with_reducible rfl)
  try simp only [Act.put, List.setIfInBounds_toArray, List.set_cons_zero, List.set_cons_succ]
  refine wpAnyH_take (i := 1) (oi := ({ dst := some 16, op := .move (.tmp 0), type := 22, pos := "delta.go:119", after := #[], guard := none } : Oper)) (v := ?_) rfl (by kernel_rfl) (by kernel_rfl) (by kernel_rfl) (fun _ _ _ h => h) (Or.inl ⟨by rfl, ?_⟩) (by assumption) ?_
  rotate_left
  · (intro w hSw; (try dsimp only at hSw); go_simp; try with_reducible rfl)
  try simp only [Act.put, List.setIfInBounds_toArray, List.set_cons_zero, List.set_cons_succ]
  refine wpAnyH_take (i := 2) (oi := ({ dst := some 17, op := .call { callee := .builtin .len, args := #[.tmp 16], argTypes := #[22] }, type := 3, pos := "delta.go:119", after := #[{ on := 1, ground := .data }], guard := none } : Oper)) (v := ?_) rfl (by kernel_rfl) (by kernel_rfl) (by kernel_rfl) (fun _ _ _ h => h) (Or.inl ⟨by rfl, ?_⟩) (by assumption) ?_
  rotate_left
  · (intro w hSw; (try dsimp only at hSw); go_simp; try with_reducible rfl)
  try simp only [Act.put, List.setIfInBounds_toArray, List.set_cons_zero, List.set_cons_succ]
  refine wpAnyH_take (i := 3) (oi := ({ dst := some 18, op := .binOp .sub 3 (.tmp 17) (.const (.int .i64 4)) 3, type := 3, pos := "delta.go:119", after := #[{ on := 2, ground := .data }], guard := none } : Oper)) (v := ?_) rfl (by kernel_rfl) (by kernel_rfl) (by kernel_rfl) (fun _ _ _ h => h) (Or.inl ⟨by rfl, ?_⟩) (by assumption) ?_
  rotate_left
  · (intro w hSw; (try dsimp only at hSw); go_simp; try with_reducible rfl)
  try simp only [Act.put, List.setIfInBounds_toArray, List.set_cons_zero, List.set_cons_succ]
  refine wpAnyH_take (i := 4) (oi := ({ dst := some 19, op := .slice 22 (.tmp 15) none (some (.tmp 18)) none, type := 22, pos := "delta.go:119", after := #[{ on := 0, ground := .data }, { on := 3, ground := .data }], guard := none } : Oper)) (v := ?_) rfl (by kernel_rfl) (by kernel_rfl) (by kernel_rfl) (fun _ _ _ h => h) (Or.inl ⟨by rfl, ?_⟩) (by assumption) ?_
  rotate_left
  · (intro w hSw; (try dsimp only at hSw); go_simp; try with_reducible rfl)
  try simp only [Act.put, List.setIfInBounds_toArray, List.set_cons_zero, List.set_cons_succ]
  refine wpAnyH_take (i := 5) (oi := ({ dst := some 20, op := .move (.tmp 0), type := 22, pos := "delta.go:119", after := #[], guard := none } : Oper)) (v := ?_) rfl (by kernel_rfl) (by kernel_rfl) (by kernel_rfl) (fun _ _ _ h => h) (Or.inl ⟨by rfl, ?_⟩) (by assumption) ?_
  rotate_left
  · (intro w hSw; (try dsimp only at hSw); go_simp; try with_reducible rfl)
  try simp only [Act.put, List.setIfInBounds_toArray, List.set_cons_zero, List.set_cons_succ]
  refine wpAnyH_take (i := 6) (oi := ({ dst := some 21, op := .move (.tmp 0), type := 22, pos := "delta.go:119", after := #[], guard := none } : Oper)) (v := ?_) rfl (by kernel_rfl) (by kernel_rfl) (by kernel_rfl) (fun _ _ _ h => h) (Or.inl ⟨by rfl, ?_⟩) (by assumption) ?_
  rotate_left
  · (intro w hSw; (try dsimp only at hSw); go_simp; try with_reducible rfl)
  try simp only [Act.put, List.setIfInBounds_toArray, List.set_cons_zero, List.set_cons_succ]
  refine wpAnyH_take (i := 7) (oi := ({ dst := some 22, op := .call { callee := .builtin .len, args := #[.tmp 21], argTypes := #[22] }, type := 3, pos := "delta.go:119", after := #[{ on := 6, ground := .data }], guard := none } : Oper)) (v := ?_) rfl (by kernel_rfl) (by kernel_rfl) (by kernel_rfl) (fun _ _ _ h => h) (Or.inl ⟨by rfl, ?_⟩) (by assumption) ?_
  rotate_left
  · (intro w hSw; (try dsimp only at hSw); go_simp; try with_reducible rfl)
  try simp only [Act.put, List.setIfInBounds_toArray, List.set_cons_zero, List.set_cons_succ]
  refine wpAnyH_take (i := 8) (oi := ({ dst := some 23, op := .binOp .sub 3 (.tmp 22) (.const (.int .i64 4)) 3, type := 3, pos := "delta.go:119", after := #[{ on := 7, ground := .data }], guard := none } : Oper)) (v := ?_) rfl (by kernel_rfl) (by kernel_rfl) (by kernel_rfl) (fun _ _ _ h => h) (Or.inl ⟨by rfl, ?_⟩) (by assumption) ?_
  rotate_left
  · (intro w hSw; (try dsimp only at hSw); go_simp; try with_reducible rfl)
  try simp only [Act.put, List.setIfInBounds_toArray, List.set_cons_zero, List.set_cons_succ]
  refine wpAnyH_take (i := 9) (oi := ({ dst := some 24, op := .slice 22 (.tmp 20) (some (.tmp 23)) none none, type := 22, pos := "delta.go:119", after := #[{ on := 5, ground := .data }, { on := 8, ground := .data }], guard := none } : Oper)) (v := ?_) rfl (by kernel_rfl) (by kernel_rfl) (by kernel_rfl) (fun _ _ _ h => h) (Or.inl ⟨by rfl, ?_⟩) (by assumption) ?_
  rotate_left
  · (intro w hSw; (try dsimp only at hSw); go_simp; try with_reducible rfl)
  try simp only [Act.put, List.setIfInBounds_toArray, List.set_cons_zero, List.set_cons_succ]
  refine wpAnyH_ready (rs := [10]) (by kernel_rfl) (by simp) ?_
  refine (AllReadyH.cons (o := ({ dst := some 25, op := .call { callee := .value (.func 106), args := #[.tmp 24], argTypes := #[22] }, type := 138, pos := "delta.go:119", after := #[{ on := 9, ground := .data }], guard := none } : Oper)) rfl (fun K hK => ?_) AllReadyH.nil)
  go_simp
  (refine (RD.out _ ke).mono ?_; rintro e w1 ⟨P, S, rfl, hR1, hF1, k1⟩)
  go_wp2_with fail
  refine hK.out _ _ ?_ (fun hHeld1 => ?_)
  · (try dsimp only); all_goals trivial
  clear hK K
  try simp only [Act.put, List.setIfInBounds_toArray, List.set_cons_zero, List.set_cons_succ]
  refine wpAnyH_take (i := 11) (oi := ({ dst := some 3, op := .assign (.tmp 19), type := 22, pos := "delta.go:119", after := #[{ on := 4, ground := .data }, { on := 10, ground := .chain }, { on := 0, ground := .phase }, { on := 1, ground := .phase }, { on := 2, ground := .phase }, { on := 3, ground := .phase }, { on := 4, ground := .phase }, { on := 5, ground := .textOnly .lateStores }, { on := 6, ground := .textOnly .lateStores }, { on := 7, ground := .textOnly .lateStoresUnsure }, { on := 8, ground := .textOnly .lateStores }, { on := 9, ground := .textOnly .lateStoresUnsure }, { on := 10, ground := .textOnly .lateStoresUnsure }], guard := none } : Oper)) (v := ?_) rfl (by kernel_rfl) (by kernel_rfl) (by kernel_rfl) (fun _ _ _ h => h) (Or.inl ⟨by rfl, ?_⟩) (by assumption) ?_
  rotate_left
  · (intro w hSw; (try dsimp only at hSw); go_simp; try with_reducible rfl)
  try simp only [Act.put, List.setIfInBounds_toArray, List.set_cons_zero, List.set_cons_succ]
  refine wpAnyH_take (i := 12) (oi := ({ dst := some 4, op := .assign (.tmp 25), type := 138, pos := "delta.go:119", after := #[{ on := 10, ground := .data }, { on := 11, ground := .chain }, { on := 0, ground := .phase }, { on := 1, ground := .phase }, { on := 2, ground := .phase }, { on := 3, ground := .phase }, { on := 4, ground := .phase }, { on := 5, ground := .phase }, { on := 6, ground := .phase }, { on := 7, ground := .phase }, { on := 8, ground := .phase }, { on := 9, ground := .phase }, { on := 10, ground := .phase }, { on := 11, ground := .phase }], guard := none } : Oper)) (v := ?_) rfl (by kernel_rfl) (by kernel_rfl) (by kernel_rfl) (fun _ _ _ h => h) (Or.inl ⟨by rfl, ?_⟩) (by assumption) ?_
  rotate_left
  · (intro w hSw; (try dsimp only at hSw); go_simp; try with_reducible rfl)
  try simp only [Act.put, List.setIfInBounds_toArray, List.set_cons_zero, List.set_cons_succ]
  refine wpAnyH_done (by kernel_rfl) ?_ _
  refine NoPanic.normal ?_
  skip
  have ke1 := ke.trans' k1
  have hwP : W.heap.size ≤ P := by have := fr_old hF1 P hR1.self; have := ke.size; omega
  have ke2 := k0.trans' ke1
  have kx2 : ∀ w2, Keep [P] w1 w2 → Keep [] W w2 := fun w2 k2 => Keep.trans (S := []) ke1 k2 (fun b hb => by simp only [List.mem_singleton] at hb; subst hb; exact Or.inr hwP)
  go_upto_region 6 with (first
    | (go_at_call 86; refine (RF.out P S _ hR1).mono ?_; rintro e w2 ⟨rfl, hR2, k2⟩)
    | (go_at_call 101; refine (SU.out _ (kx2 _ k2)).mono ?_; rintro e w3 ⟨rfl, k3⟩)
    | fail)
  have k03 : Keep [] W w3 := (kx2 _ k2).trans' k3
  have c1 := (B0.keep k03 (by simp)).cell (i := 0) rfl
  have f1 := (B0.keep k03 (by simp)).free (i := 0)
  have RB3 := Lib.hid (RB.out w3 k03)
  go_wp2_with (first
    | (go_at_call 106; refine RB3.out.mono ?_; rintro e w4 ⟨P4, S4, rfl, hR4, hF4, k4⟩; have c2 := (B0.keep (k03.trans' k4) (by simp)).cell (i := 0) rfl; have f2 := (B0.keep (k03.trans' k4) (by simp)).free (i := 0))
    | fail)
  have B4 := (B0.keep (k03.trans' k4) (by simp)).set 0 (.pointer (some ⟨P4, 0, none⟩))
  have kS := Keep.set_one w4 ⟨R, 0, none⟩ (.pointer (some ⟨P4, 0, none⟩))
  have hwR : w.heap.size ≤ R := Nat.le_of_eq HR.out
  have k04 := (k0.trans' k03).trans' k4
  have hRS : R ∉ S4 := fun h => by have h1 := fr_old hF4 R h; have := (B0.keep k03 (by simp)).lt; omega
  exact bodyPost_ret (results_cell_row rfl _ _ R 140 #[.pointer (some ⟨P4, 0, none⟩)] (0, 0) _ rfl B4 Try.underlying140 rfl (by kernel_rfl)) rfl
    ⟨P4, S4, rfl, hR4.keep kS (fun b hb => by simp only [List.mem_singleton]; rintro rfl; exact hRS hb), hF4.le (k0.trans' k03).size, k04.trans kS (fun b hb => Or.inr (by simp only [List.mem_singleton] at hb; subst hb; exact hwR))⟩
end Go.Proofs.Ytpocegdlobnhaaa
end

/- read: one call of a reader beside the document's. -/
import Derived.Test.YtkhplfgehcljmaaT
set_option linter.unusedVariables false
set_option linter.unusedSimpArgs false
namespace Go.Proofs.Ytkhplfgehcljmaa
open Go.RowKit

theorem rleft_q (P : Nat) (S : List Nat) (d : List UInt8) (s : RS) (w : World) (h : RdAt w P S d s) :
    Calls Try.prog 32 #[.pointer (some ⟨P, 0, none⟩)] w fun e w' => e = .returned (.int .i64 (rLeft d s)) ∧ ∃ m, w' = w.drewN m := by
  have h0 := goes_any P S d s w h
  by_cases hc : s.code = 0
  · obtain ⟨va, vc, h1, rfl⟩ := h
    obtain ⟨A, L, o⟩ := h1.opened
    have hr : rLeft d s = L - A := by rw [rLeft, if_pos hc, o.hA.out, o.hL.out]
    rw [hc] at h0
    have c2 : w.cell? ⟨P, 2, none⟩ = some (.slice va L vc) := o.blk.cell (i := 2) rfl
    have c3 : w.cell? ⟨P, 3, none⟩ = some (.int .i64 A) := o.blk.cell (i := 3) rfl
    have g1 := o.h1
    have g2 := o.h2
    have e1 : IntKind.i64.wrap ((L : Int) - A) = L - A := IntWalk.i64_in _ (by omega)
    have e2 : ((L - A : Nat) : Int) = (L : Int) - A := by omega
    have HR := Lib.hid hr
    have HE := Lib.hid e2
    clear hr hc e2
    go_enter Try.func32, Try.ntmps32
    go_upto_region 3 with (first | (go_at_call 54; refine h0.mono ?_; rintro e w1 ⟨rfl, hw⟩; have hw' := hw.symm; subst hw') | fail)
    go_quiet (fail)
    go_wp2_with fail
    go_returns
    exact ⟨by rw [HR.out, HE.out]; rfl, nq, rfl⟩
  · have h1 : (s.code == 0) = false := by simpa using hc
    rw [rLeft, if_neg hc]
    rw [h1] at h0
    go_enter Try.func32, Try.ntmps32
    go_wp2_with (first | (go_at_call 54; refine h0.mono ?_; rintro e w1 ⟨rfl, rfl⟩) | fail)
    go_returns
    exact ⟨rfl, 0, rfl⟩

/-- Both readers stand alike. -/
structure Beside (w : World) (P : Nat) (S : List Nat) (X : Nat) (a : Option Addr) (c : Nat) (d : List UInt8) (s : RS) : Prop where
  mine : RdAt w P S d s
  ref : RefAt w X a c d s
  xs : X ∉ S
  ad : d ≠ [] → ablk a ∉ S
theorem Beside.keep {w w' : World} {P X : Nat} {S T : List Nat} {a : Option Addr} {c : Nat} {d : List UInt8} {s : RS} (h : Beside w P S X a c d s) (k : Keep T w w') (hS : ∀ b ∈ S, b ∉ T) (hX : X ∉ T) (ha : d ≠ [] → ablk a ∉ T) : Beside w' P S X a c d s :=
  ⟨h.mine.keep k hS, h.ref.keep k hX ha, h.xs, h.ad⟩
/-- What 'read' leaves. -/
def Reads2 (w : World) (P : Nat) (S : List Nat) (X : Nat) (a : Option Addr) (c : Nat) (d : List UInt8) (e : Ending) (w' : World) : Prop :=
  e = .returned (.bool true) ∧ ∃ s', Beside w' P S X a c d s' ∧ Keep [P, X] w w'

theorem rRaw_len (d : List UInt8) (s : RS) (n : Int) : (rRaw d s n).1.length ≤ d.length := by
  unfold rRaw
  split
  · split
    · simp
    · split
      · simp
      · simp only [List.length_take, List.length_drop]; omega
  · simp
theorem rText_len (d : List UInt8) (s : RS) (n : Int) : (rText d s n).1.length ≤ d.length := by
  unfold rText
  split
  · split
    · simp
    · split
      · simp only [List.length_take, List.length_drop]; omega
      · simp
  · simp

set_option maxHeartbeats 4000000 in
set_option maxRecDepth 100000 in
theorem read_num (P X : Nat) (S : List Nat) (ra : Option Addr) (rc : Nat) (d : List UInt8) (s : RS) (c : Cl) (a : Option Addr) (l cap : Nat) (w : World) (hb : Beside w P S X ra rc d s) (hv : (Lit.int .i64 c.v).wf = true) (hk : c.k = 1) :
    Calls Try.prog 24 #[.pointer (some ⟨P, 0, none⟩), .pointer (some ⟨X, 0, none⟩), clV c a l cap] w (Reads2 w P S X ra rc d) := by
  obtain ⟨ck, cv, cu, cd⟩ := c
  obtain rfl : ck = 1 := hk
  simp only [clV] at hv ⊢
  have hv9 : cv ≤ 9223372036854775807 := by simp [Lit.wf, IntKind.min, IntKind.max, IntKind.signed, IntKind.bits] at hv; omega
  obtain ⟨B, hBB⟩ : ∃ B, w.heap.size = B := ⟨_, rfl⟩
  obtain ⟨w1, hw1⟩ : ∃ w1, w.alloc (.cells #[.int .i64 1, .int .i64 cv, .int .i64 cu, .slice a l cap] 46) = w1 := ⟨_, rfl⟩
  have hC : Blk w1 B #[.int .i64 1, .int .i64 cv, .int .i64 cu, .slice a l cap] 46 := by rw [← hw1, ← hBB]; exact Blk.new w _ 46
  have k1 : Keep [] w w1 := by rw [← hw1]; exact (Keep.refl _ _).alloc _
  have hPlt := hb.mine.lt P hb.mine.self
  have hXlt := hb.ref.blk.lt
  have hBP : B ≠ P := by omega
  have hBX : B ≠ X := by omega
  have hXP : X ≠ P := fun e => hb.xs (by rw [e]; exact hb.mine.self)
  have hb1 := hb.keep k1 (by simp) (by simp) (by simp)
  have hSX : ∀ b ∈ S, b ∉ [X] := by intro b hbS; simp only [List.mem_singleton]; rintro rfl; exact hb.xs hbS
  have haP : d ≠ [] → ablk ra ∉ [P] := fun h => by simp only [List.mem_singleton]; intro e; exact hb.ad h (by rw [e]; exact hb.mine.self)
  have haX : d ≠ [] → ablk ra ∉ [X] := fun h => by simp only [List.mem_singleton]; exact hb.ref.out h
  have hc := Lib.hid (takeNumber_any X ra rc d s w1 hb1.ref)
  go_enter Try.func24, Try.ntmps24
  go_upto_region 1 with fail
  clear hw1 hBB
  have d0 : w1.cell? ⟨B, 0, none⟩ = some (.int .i64 1) := hC.cell (i := 0) rfl
  have d1 : w1.cell? ⟨B, 1, none⟩ = some (.int .i64 cv) := hC.cell (i := 1) rfl
  have d2 : w1.cell? ⟨B, 2, none⟩ = some (.int .i64 cu) := hC.cell (i := 2) rfl
  obtain ⟨rv, hrv⟩ : ∃ rv : Nat, (rNumber d s).1 = rv := ⟨_, rfl⟩
  have hcmp : ((rv : Int) != rv) = false := by simp
  rw [hrv] at hc
  go_upto_region 18 with (first
    | (go_at_call 50; refine hc.out.mono ?_; rintro e w2 ⟨rfl, hr2, k2⟩
       have hm2 := hb1.mine.keep k2 hSX
       have hn2 := Lib.hid (rnumber_any P S d s w2 hm2)
       rw [hrv] at hn2)
    | (go_at_call 28; refine hn2.out.mono ?_; rintro e w3 ⟨rfl, hm3, k3⟩)
    | fail)
  have hbz : Beside w3 P S X ra rc d (rNumber d s).2 := ⟨hm3, hr2.keep k3 (by simpa using hXP) haP, hb1.xs, hb1.ad⟩
  have kz : Keep [P, X] w w3 := ((k1.mono (by simp)).trans k2 (by simp)).trans k3 (by simp)
  clear d0 d1 d2 hc hcmp hrv
  have herr := Lib.hid (rerr_any P S d (rNumber d s).2 w3 hbz.mine)
  go_upto_region 19 with (first
    | (go_at_call 27; refine herr.out.mono ?_; rintro e w8 ⟨rfl, -, k8⟩)
    | fail)
  have hb8 := hbz.keep k8 (by simp) (by simp) (by simp)
  have kz8 : Keep [P, X] w w8 := kz.trans' k8
  generalize hgen : (rNumber d s).2 = sz at hb8 ⊢
  obtain ⟨zc, zp, za⟩ := sz
  have hcode : (zc == zc) = true := by simp
  have hplace : (zp == zp) = true := by simp
  have x2 : w8.cell? ⟨X, 2, none⟩ = some (.int .i64 zc) := hb8.ref.blk.cell (i := 2) rfl
  have x3 : w8.cell? ⟨X, 3, none⟩ = some (.int .i64 zp) := hb8.ref.blk.cell (i := 3) rfl
  have q1 := Lib.hid (fun W (k : Keep [] w8 W) => rleft_q P S d ⟨zc, zp, za⟩ W (hb8.mine.keep k (by simp)))
  have q2 := Lib.hid (fun W (k : Keep [] w8 W) => refLeft_any X ra rc d ⟨zc, zp, za⟩ W (hb8.ref.keep k (by simp) (by simp)))
  obtain ⟨LF, hLF⟩ : ∃ LF : Nat, rLeft d ⟨zc, zp, za⟩ = LF := ⟨_, rfl⟩
  rw [hLF] at q1 q2
  have hleft : ((LF : Int) == LF) = true := by simp
  clear hLF hgen hbz kz herr k8
  go_quiet ((first
    | (go_at_call 32; exact Calls.quiet_of (q1.out _ ((Keep.refl _ _).drewN)))
    | (go_at_call 52; exact Calls.quiet_of (q2.out _ ((Keep.refl _ _).drewN)))
    | (go_at_call 26; exact Calls.quiet_of_same (num'_any _ _))))
  go_wp2_with fail
  go_returns
  exact ⟨rfl, _, hb8.keep ((Keep.refl [] w8).drewN) (by simp) (by simp) (by simp), kz8.drewN⟩

set_option maxHeartbeats 4000000 in
set_option maxRecDepth 100000 in
theorem read_fix (P X : Nat) (S : List Nat) (ra : Option Addr) (rc : Nat) (d : List UInt8) (s : RS) (c : Cl) (a : Option Addr) (l cap : Nat) (w : World) (hb : Beside w P S X ra rc d s) (hv : (Lit.int .i64 c.v).wf = true) (hk : c.k = 2) :
    Calls Try.prog 24 #[.pointer (some ⟨P, 0, none⟩), .pointer (some ⟨X, 0, none⟩), clV c a l cap] w (Reads2 w P S X ra rc d) := by
  obtain ⟨ck, cv, cu, cd⟩ := c
  obtain rfl : ck = 2 := hk
  simp only [clV] at hv ⊢
  have hv9 : cv ≤ 9223372036854775807 := by simp [Lit.wf, IntKind.min, IntKind.max, IntKind.signed, IntKind.bits] at hv; omega
  obtain ⟨B, hBB⟩ : ∃ B, w.heap.size = B := ⟨_, rfl⟩
  obtain ⟨w1, hw1⟩ : ∃ w1, w.alloc (.cells #[.int .i64 2, .int .i64 cv, .int .i64 cu, .slice a l cap] 46) = w1 := ⟨_, rfl⟩
  have hC : Blk w1 B #[.int .i64 2, .int .i64 cv, .int .i64 cu, .slice a l cap] 46 := by rw [← hw1, ← hBB]; exact Blk.new w _ 46
  have k1 : Keep [] w w1 := by rw [← hw1]; exact (Keep.refl _ _).alloc _
  have hPlt := hb.mine.lt P hb.mine.self
  have hXlt := hb.ref.blk.lt
  have hBP : B ≠ P := by omega
  have hBX : B ≠ X := by omega
  have hXP : X ≠ P := fun e => hb.xs (by rw [e]; exact hb.mine.self)
  have hb1 := hb.keep k1 (by simp) (by simp) (by simp)
  have hSX : ∀ b ∈ S, b ∉ [X] := by intro b hbS; simp only [List.mem_singleton]; rintro rfl; exact hb.xs hbS
  have haP : d ≠ [] → ablk ra ∉ [P] := fun h => by simp only [List.mem_singleton]; intro e; exact hb.ad h (by rw [e]; exact hb.mine.self)
  have haX : d ≠ [] → ablk ra ∉ [X] := fun h => by simp only [List.mem_singleton]; exact hb.ref.out h
  have hc := Lib.hid (takeFixed_any X ra rc d s cu w1 hb1.ref)
  go_enter Try.func24, Try.ntmps24
  go_upto_region 1 with fail
  clear hw1 hBB
  have d0 : w1.cell? ⟨B, 0, none⟩ = some (.int .i64 2) := hC.cell (i := 0) rfl
  have d1 : w1.cell? ⟨B, 1, none⟩ = some (.int .i64 cv) := hC.cell (i := 1) rfl
  have d2 : w1.cell? ⟨B, 2, none⟩ = some (.int .i64 cu) := hC.cell (i := 2) rfl
  obtain ⟨rv, hrv⟩ : ∃ rv : Nat, (rFixed d s cu).1 = rv := ⟨_, rfl⟩
  have hcmp : ((rv : Int) != rv) = false := by simp
  rw [hrv] at hc
  go_upto_region 18 with (first
    | (go_at_call 51; refine hc.out.mono ?_; rintro e w2 ⟨rfl, hr2, k2⟩
       have hC2 := hC.keep k2 (by simpa using hBX)
       have z2 : w2.cell? ⟨B, 2, none⟩ = some (.int .i64 cu) := hC2.cell (i := 2) rfl
       have hm2 := hb1.mine.keep k2 hSX
       have hn2 := Lib.hid (rfixed_any P S d s cu w2 hm2)
       rw [hrv] at hn2)
    | (go_at_call 29; refine hn2.out.mono ?_; rintro e w3 ⟨rfl, hm3, k3⟩)
    | fail)
  have hbz : Beside w3 P S X ra rc d (rFixed d s cu).2 := ⟨hm3, hr2.keep k3 (by simpa using hXP) haP, hb1.xs, hb1.ad⟩
  have kz : Keep [P, X] w w3 := ((k1.mono (by simp)).trans k2 (by simp)).trans k3 (by simp)
  clear d0 d1 d2 hc hcmp hrv z2
  have herr := Lib.hid (rerr_any P S d (rFixed d s cu).2 w3 hbz.mine)
  go_upto_region 19 with (first
    | (go_at_call 27; refine herr.out.mono ?_; rintro e w8 ⟨rfl, -, k8⟩)
    | fail)
  have hb8 := hbz.keep k8 (by simp) (by simp) (by simp)
  have kz8 : Keep [P, X] w w8 := kz.trans' k8
  generalize hgen : (rFixed d s cu).2 = sz at hb8 ⊢
  obtain ⟨zc, zp, za⟩ := sz
  have hcode : (zc == zc) = true := by simp
  have hplace : (zp == zp) = true := by simp
  have x2 : w8.cell? ⟨X, 2, none⟩ = some (.int .i64 zc) := hb8.ref.blk.cell (i := 2) rfl
  have x3 : w8.cell? ⟨X, 3, none⟩ = some (.int .i64 zp) := hb8.ref.blk.cell (i := 3) rfl
  have q1 := Lib.hid (fun W (k : Keep [] w8 W) => rleft_q P S d ⟨zc, zp, za⟩ W (hb8.mine.keep k (by simp)))
  have q2 := Lib.hid (fun W (k : Keep [] w8 W) => refLeft_any X ra rc d ⟨zc, zp, za⟩ W (hb8.ref.keep k (by simp) (by simp)))
  obtain ⟨LF, hLF⟩ : ∃ LF : Nat, rLeft d ⟨zc, zp, za⟩ = LF := ⟨_, rfl⟩
  rw [hLF] at q1 q2
  have hleft : ((LF : Int) == LF) = true := by simp
  clear hLF hgen hbz kz herr k8
  go_quiet ((first
    | (go_at_call 32; exact Calls.quiet_of (q1.out _ ((Keep.refl _ _).drewN)))
    | (go_at_call 52; exact Calls.quiet_of (q2.out _ ((Keep.refl _ _).drewN)))
    | (go_at_call 26; exact Calls.quiet_of_same (num'_any _ _))))
  go_wp2_with fail
  go_returns
  exact ⟨rfl, _, hb8.keep ((Keep.refl [] w8).drewN) (by simp) (by simp) (by simp), kz8.drewN⟩

set_option maxHeartbeats 4000000 in
set_option maxRecDepth 100000 in
theorem read_raw (P X : Nat) (S : List Nat) (ra : Option Addr) (rc : Nat) (d : List UInt8) (s : RS) (c : Cl) (a : Option Addr) (l cap : Nat) (w : World) (hb : Beside w P S X ra rc d s) (hv : (Lit.int .i64 c.v).wf = true) (hk : c.k = 3) (hd : d.length ≤ 140737488355328) :
    Calls Try.prog 24 #[.pointer (some ⟨P, 0, none⟩), .pointer (some ⟨X, 0, none⟩), clV c a l cap] w (Reads2 w P S X ra rc d) := by
  obtain ⟨ck, cv, cu, cd⟩ := c
  obtain rfl : ck = 3 := hk
  simp only [clV] at hv ⊢
  have hv9 : cv ≤ 9223372036854775807 := by simp [Lit.wf, IntKind.min, IntKind.max, IntKind.signed, IntKind.bits] at hv; omega
  obtain ⟨B, hBB⟩ : ∃ B, w.heap.size = B := ⟨_, rfl⟩
  obtain ⟨w1, hw1⟩ : ∃ w1, w.alloc (.cells #[.int .i64 3, .int .i64 cv, .int .i64 cu, .slice a l cap] 46) = w1 := ⟨_, rfl⟩
  have hC : Blk w1 B #[.int .i64 3, .int .i64 cv, .int .i64 cu, .slice a l cap] 46 := by rw [← hw1, ← hBB]; exact Blk.new w _ 46
  have k1 : Keep [] w w1 := by rw [← hw1]; exact (Keep.refl _ _).alloc _
  have hPlt := hb.mine.lt P hb.mine.self
  have hXlt := hb.ref.blk.lt
  have hBP : B ≠ P := by omega
  have hBX : B ≠ X := by omega
  have hXP : X ≠ P := fun e => hb.xs (by rw [e]; exact hb.mine.self)
  have hb1 := hb.keep k1 (by simp) (by simp) (by simp)
  have hSX : ∀ b ∈ S, b ∉ [X] := by intro b hbS; simp only [List.mem_singleton]; rintro rfl; exact hb.xs hbS
  have haP : d ≠ [] → ablk ra ∉ [P] := fun h => by simp only [List.mem_singleton]; intro e; exact hb.ad h (by rw [e]; exact hb.mine.self)
  have haX : d ≠ [] → ablk ra ∉ [X] := fun h => by simp only [List.mem_singleton]; exact hb.ref.out h
  have hc := Lib.hid (takeRaw_any X ra rc d s cv w1 hb1.ref hv9)
  go_enter Try.func24, Try.ntmps24
  go_upto_region 1 with fail
  clear hw1 hBB
  have d0 : w1.cell? ⟨B, 0, none⟩ = some (.int .i64 3) := hC.cell (i := 0) rfl
  have d1 : w1.cell? ⟨B, 1, none⟩ = some (.int .i64 cv) := hC.cell (i := 1) rfl
  have d2 : w1.cell? ⟨B, 2, none⟩ = some (.int .i64 cu) := hC.cell (i := 2) rfl
  obtain ⟨res, hres⟩ : ∃ res, rRaw d s cv = res := ⟨_, rfl⟩
  rw [hres] at hc
  have hlen : res.1.length ≤ 140737488355328 := by rw [← hres]; exact Nat.le_trans (rRaw_len d s cv) hd
  obtain ⟨n, hn⟩ : ∃ n, res.1.length = n := ⟨_, rfl⟩
  unfold RefGives at hc
  rw [hn] at hc hlen
  have HN := Lib.hid hn
  have HRES := Lib.hid hres
  clear hn hres
  go_upto_region 18 with (first
    | (go_at_call 40; refine hc.out.mono ?_; rintro e w2 ⟨a2, c2, rfl, hs2, hf2, hr2, k2⟩
       have hC2 := hC.keep k2 (by simpa using hBX)
       have z1 : w2.cell? ⟨B, 1, none⟩ = some (.int .i64 cv) := hC2.cell (i := 1) rfl
       have hm2 := hb1.mine.keep k2 hSX
       have hn2 := rraw_any P S d s cv w2 hm2 hv9
       rw [HRES.out] at hn2
       unfold Gives at hn2
       rw [HN.out] at hn2
       have hn3 := Lib.hid hn2
       clear hn2)
    | (go_at_call 30; refine hn3.out.mono ?_; rintro e w3 ⟨a3, c3, rfl, hs3, hf3, hm3, k3⟩
       have hs2' := hs2.keep k3 (fun q hq => by
         simp only [List.mem_singleton]; intro e
         rcases hf2 q hq with h | h
         · cases h
         · have := k1.size; omega)
       have hby := bytes_any a3 a2 n n c3 c2 res.1 res.1 w3 HN.out HN.out hlen hs3.use.2.2.1 hs2'.use.2.2.1
       rw [beq_self_eq_true] at hby)
    | (go_at_call 35; refine hby.mono ?_; rintro e w4 ⟨rfl, m, rfl⟩)
    | fail)
  have kd : Keep [] w3 (w3.drewN m) := (Keep.refl _ _).drewN
  have hbz : Beside (w3.drewN m) P S X ra rc d res.2 := Beside.keep ⟨hm3, hr2.keep k3 (by simpa using hXP) haP, hb1.xs, hb1.ad⟩ kd (by simp) (by simp) (by simp)
  have kz : Keep [P, X] w (w3.drewN m) := (((k1.mono (by simp)).trans k2 (by simp)).trans k3 (by simp) : Keep [P, X] w w3).drewN
  generalize w3.drewN m = w7 at hbz kz ⊢
  clear d0 d1 d2 hc z1 hby kd
  have herr := Lib.hid (rerr_any P S d res.2 w7 hbz.mine)
  go_upto_region 19 with (first
    | (go_at_call 27; refine herr.out.mono ?_; rintro e w8 ⟨rfl, -, k8⟩)
    | fail)
  have hb8 := hbz.keep k8 (by simp) (by simp) (by simp)
  have kz8 : Keep [P, X] w w8 := kz.trans' k8
  generalize hgen : res.2 = sz at hb8 ⊢
  obtain ⟨zc, zp, za⟩ := sz
  have hcode : (zc == zc) = true := by simp
  have hplace : (zp == zp) = true := by simp
  have x2 : w8.cell? ⟨X, 2, none⟩ = some (.int .i64 zc) := hb8.ref.blk.cell (i := 2) rfl
  have x3 : w8.cell? ⟨X, 3, none⟩ = some (.int .i64 zp) := hb8.ref.blk.cell (i := 3) rfl
  have q1 := Lib.hid (fun W (k : Keep [] w8 W) => rleft_q P S d ⟨zc, zp, za⟩ W (hb8.mine.keep k (by simp)))
  have q2 := Lib.hid (fun W (k : Keep [] w8 W) => refLeft_any X ra rc d ⟨zc, zp, za⟩ W (hb8.ref.keep k (by simp) (by simp)))
  obtain ⟨LF, hLF⟩ : ∃ LF : Nat, rLeft d ⟨zc, zp, za⟩ = LF := ⟨_, rfl⟩
  rw [hLF] at q1 q2
  have hleft : ((LF : Int) == LF) = true := by simp
  clear hLF hgen hbz kz herr k8
  go_quiet ((first
    | (go_at_call 32; exact Calls.quiet_of (q1.out _ ((Keep.refl _ _).drewN)))
    | (go_at_call 52; exact Calls.quiet_of (q2.out _ ((Keep.refl _ _).drewN)))
    | (go_at_call 26; exact Calls.quiet_of_same (num'_any _ _))))
  go_wp2_with fail
  go_returns
  exact ⟨rfl, _, hb8.keep ((Keep.refl [] w8).drewN) (by simp) (by simp) (by simp), kz8.drewN⟩

set_option maxHeartbeats 4000000 in
set_option maxRecDepth 100000 in
theorem read_text (P X : Nat) (S : List Nat) (ra : Option Addr) (rc : Nat) (d : List UInt8) (s : RS) (c : Cl) (a : Option Addr) (l cap : Nat) (w : World) (hb : Beside w P S X ra rc d s) (hv : (Lit.int .i64 c.v).wf = true) (hk : c.k = 4) (hd : d.length ≤ 140737488355328) :
    Calls Try.prog 24 #[.pointer (some ⟨P, 0, none⟩), .pointer (some ⟨X, 0, none⟩), clV c a l cap] w (Reads2 w P S X ra rc d) := by
  obtain ⟨ck, cv, cu, cd⟩ := c
  obtain rfl : ck = 4 := hk
  simp only [clV] at hv ⊢
  have hv9 : cv ≤ 9223372036854775807 := by simp [Lit.wf, IntKind.min, IntKind.max, IntKind.signed, IntKind.bits] at hv; omega
  obtain ⟨B, hBB⟩ : ∃ B, w.heap.size = B := ⟨_, rfl⟩
  obtain ⟨w1, hw1⟩ : ∃ w1, w.alloc (.cells #[.int .i64 4, .int .i64 cv, .int .i64 cu, .slice a l cap] 46) = w1 := ⟨_, rfl⟩
  have hC : Blk w1 B #[.int .i64 4, .int .i64 cv, .int .i64 cu, .slice a l cap] 46 := by rw [← hw1, ← hBB]; exact Blk.new w _ 46
  have k1 : Keep [] w w1 := by rw [← hw1]; exact (Keep.refl _ _).alloc _
  have hPlt := hb.mine.lt P hb.mine.self
  have hXlt := hb.ref.blk.lt
  have hBP : B ≠ P := by omega
  have hBX : B ≠ X := by omega
  have hXP : X ≠ P := fun e => hb.xs (by rw [e]; exact hb.mine.self)
  have hb1 := hb.keep k1 (by simp) (by simp) (by simp)
  have hSX : ∀ b ∈ S, b ∉ [X] := by intro b hbS; simp only [List.mem_singleton]; rintro rfl; exact hb.xs hbS
  have haP : d ≠ [] → ablk ra ∉ [P] := fun h => by simp only [List.mem_singleton]; intro e; exact hb.ad h (by rw [e]; exact hb.mine.self)
  have haX : d ≠ [] → ablk ra ∉ [X] := fun h => by simp only [List.mem_singleton]; exact hb.ref.out h
  have hc := Lib.hid (takeText_any X ra rc d s cv w1 hb1.ref hv9)
  go_enter Try.func24, Try.ntmps24
  go_upto_region 1 with fail
  clear hw1 hBB
  have d0 : w1.cell? ⟨B, 0, none⟩ = some (.int .i64 4) := hC.cell (i := 0) rfl
  have d1 : w1.cell? ⟨B, 1, none⟩ = some (.int .i64 cv) := hC.cell (i := 1) rfl
  have d2 : w1.cell? ⟨B, 2, none⟩ = some (.int .i64 cu) := hC.cell (i := 2) rfl
  obtain ⟨res, hres⟩ : ∃ res, rText d s cv = res := ⟨_, rfl⟩
  rw [hres] at hc
  have hlen : res.1.length ≤ 140737488355328 := by rw [← hres]; exact Nat.le_trans (rText_len d s cv) hd
  obtain ⟨n, hn⟩ : ∃ n, res.1.length = n := ⟨_, rfl⟩
  unfold RefGives at hc
  rw [hn] at hc hlen
  have HN := Lib.hid hn
  have HRES := Lib.hid hres
  clear hn hres
  go_upto_region 18 with (first
    | (go_at_call 41; refine hc.out.mono ?_; rintro e w2 ⟨a2, c2, rfl, hs2, hf2, hr2, k2⟩
       have hC2 := hC.keep k2 (by simpa using hBX)
       have z1 : w2.cell? ⟨B, 1, none⟩ = some (.int .i64 cv) := hC2.cell (i := 1) rfl
       have hm2 := hb1.mine.keep k2 hSX
       have hn2 := rtext_any P S d s cv w2 hm2 hv9
       rw [HRES.out] at hn2
       unfold Gives at hn2
       rw [HN.out] at hn2
       have hn3 := Lib.hid hn2
       clear hn2)
    | (go_at_call 31; refine hn3.out.mono ?_; rintro e w3 ⟨a3, c3, rfl, hs3, hf3, hm3, k3⟩
       have hs2' := hs2.keep k3 (fun q hq => by
         simp only [List.mem_singleton]; intro e
         rcases hf2 q hq with h | h
         · cases h
         · have := k1.size; omega)
       have hby := bytes_any a3 a2 n n c3 c2 res.1 res.1 w3 HN.out HN.out hlen hs3.use.2.2.1 hs2'.use.2.2.1
       rw [beq_self_eq_true] at hby)
    | (go_at_call 35; refine hby.mono ?_; rintro e w4 ⟨rfl, m, rfl⟩)
    | fail)
  have kd : Keep [] w3 (w3.drewN m) := (Keep.refl _ _).drewN
  have hbz : Beside (w3.drewN m) P S X ra rc d res.2 := Beside.keep ⟨hm3, hr2.keep k3 (by simpa using hXP) haP, hb1.xs, hb1.ad⟩ kd (by simp) (by simp) (by simp)
  have kz : Keep [P, X] w (w3.drewN m) := (((k1.mono (by simp)).trans k2 (by simp)).trans k3 (by simp) : Keep [P, X] w w3).drewN
  generalize w3.drewN m = w7 at hbz kz ⊢
  clear d0 d1 d2 hc z1 hby kd
  have herr := Lib.hid (rerr_any P S d res.2 w7 hbz.mine)
  go_upto_region 19 with (first
    | (go_at_call 27; refine herr.out.mono ?_; rintro e w8 ⟨rfl, -, k8⟩)
    | fail)
  have hb8 := hbz.keep k8 (by simp) (by simp) (by simp)
  have kz8 : Keep [P, X] w w8 := kz.trans' k8
  generalize hgen : res.2 = sz at hb8 ⊢
  obtain ⟨zc, zp, za⟩ := sz
  have hcode : (zc == zc) = true := by simp
  have hplace : (zp == zp) = true := by simp
  have x2 : w8.cell? ⟨X, 2, none⟩ = some (.int .i64 zc) := hb8.ref.blk.cell (i := 2) rfl
  have x3 : w8.cell? ⟨X, 3, none⟩ = some (.int .i64 zp) := hb8.ref.blk.cell (i := 3) rfl
  have q1 := Lib.hid (fun W (k : Keep [] w8 W) => rleft_q P S d ⟨zc, zp, za⟩ W (hb8.mine.keep k (by simp)))
  have q2 := Lib.hid (fun W (k : Keep [] w8 W) => refLeft_any X ra rc d ⟨zc, zp, za⟩ W (hb8.ref.keep k (by simp) (by simp)))
  obtain ⟨LF, hLF⟩ : ∃ LF : Nat, rLeft d ⟨zc, zp, za⟩ = LF := ⟨_, rfl⟩
  rw [hLF] at q1 q2
  have hleft : ((LF : Int) == LF) = true := by simp
  clear hLF hgen hbz kz herr k8
  go_quiet ((first
    | (go_at_call 32; exact Calls.quiet_of (q1.out _ ((Keep.refl _ _).drewN)))
    | (go_at_call 52; exact Calls.quiet_of (q2.out _ ((Keep.refl _ _).drewN)))
    | (go_at_call 26; exact Calls.quiet_of_same (num'_any _ _))))
  go_wp2_with fail
  go_returns
  exact ⟨rfl, _, hb8.keep ((Keep.refl [] w8).drewN) (by simp) (by simp) (by simp), kz8.drewN⟩

set_option maxHeartbeats 4000000 in
set_option maxRecDepth 100000 in
theorem read_other (P X : Nat) (S : List Nat) (ra : Option Addr) (rc : Nat) (d : List UInt8) (s : RS) (c : Cl) (a : Option Addr) (l cap : Nat) (w : World) (hb : Beside w P S X ra rc d s) (hv : (Lit.int .i64 c.v).wf = true) (hk1 : (c.k == 1) = false) (hk2 : (c.k == 2) = false) (hk3 : (c.k == 3) = false) (hk4 : (c.k == 4) = false) :
    Calls Try.prog 24 #[.pointer (some ⟨P, 0, none⟩), .pointer (some ⟨X, 0, none⟩), clV c a l cap] w (Reads2 w P S X ra rc d) := by
  obtain ⟨ck, cv, cu, cd⟩ := c
  simp only [clV] at hv hk1 hk2 hk3 hk4 ⊢
  have hv9 : cv ≤ 9223372036854775807 := by simp [Lit.wf, IntKind.min, IntKind.max, IntKind.signed, IntKind.bits] at hv; omega
  obtain ⟨B, hBB⟩ : ∃ B, w.heap.size = B := ⟨_, rfl⟩
  obtain ⟨w1, hw1⟩ : ∃ w1, w.alloc (.cells #[.int .i64 ck, .int .i64 cv, .int .i64 cu, .slice a l cap] 46) = w1 := ⟨_, rfl⟩
  have hC : Blk w1 B #[.int .i64 ck, .int .i64 cv, .int .i64 cu, .slice a l cap] 46 := by rw [← hw1, ← hBB]; exact Blk.new w _ 46
  have k1 : Keep [] w w1 := by rw [← hw1]; exact (Keep.refl _ _).alloc _
  have hPlt := hb.mine.lt P hb.mine.self
  have hXlt := hb.ref.blk.lt
  have hBP : B ≠ P := by omega
  have hBX : B ≠ X := by omega
  have hXP : X ≠ P := fun e => hb.xs (by rw [e]; exact hb.mine.self)
  have hb1 := hb.keep k1 (by simp) (by simp) (by simp)
  have hSX : ∀ b ∈ S, b ∉ [X] := by intro b hbS; simp only [List.mem_singleton]; rintro rfl; exact hb.xs hbS
  have haP : d ≠ [] → ablk ra ∉ [P] := fun h => by simp only [List.mem_singleton]; intro e; exact hb.ad h (by rw [e]; exact hb.mine.self)
  have haX : d ≠ [] → ablk ra ∉ [X] := fun h => by simp only [List.mem_singleton]; exact hb.ref.out h
  go_enter Try.func24, Try.ntmps24
  go_upto_region 1 with fail
  clear hw1 hBB
  have d0 : w1.cell? ⟨B, 0, none⟩ = some (.int .i64 ck) := hC.cell (i := 0) rfl
  have d1 : w1.cell? ⟨B, 1, none⟩ = some (.int .i64 cv) := hC.cell (i := 1) rfl
  have d2 : w1.cell? ⟨B, 2, none⟩ = some (.int .i64 cu) := hC.cell (i := 2) rfl
  go_upto_region 18 with fail
  have hbz := hb1
  have kz : Keep [P, X] w w1 := k1.mono (by simp)
  clear d0 d1 d2
  have herr := Lib.hid (rerr_any P S d s w1 hbz.mine)
  go_upto_region 19 with (first
    | (go_at_call 27; refine herr.out.mono ?_; rintro e w8 ⟨rfl, -, k8⟩)
    | fail)
  have hb8 := hbz.keep k8 (by simp) (by simp) (by simp)
  have kz8 : Keep [P, X] w w8 := kz.trans' k8
  generalize hgen : s = sz at hb8 ⊢
  obtain ⟨zc, zp, za⟩ := sz
  have hcode : (zc == zc) = true := by simp
  have hplace : (zp == zp) = true := by simp
  have x2 : w8.cell? ⟨X, 2, none⟩ = some (.int .i64 zc) := hb8.ref.blk.cell (i := 2) rfl
  have x3 : w8.cell? ⟨X, 3, none⟩ = some (.int .i64 zp) := hb8.ref.blk.cell (i := 3) rfl
  have q1 := Lib.hid (fun W (k : Keep [] w8 W) => rleft_q P S d ⟨zc, zp, za⟩ W (hb8.mine.keep k (by simp)))
  have q2 := Lib.hid (fun W (k : Keep [] w8 W) => refLeft_any X ra rc d ⟨zc, zp, za⟩ W (hb8.ref.keep k (by simp) (by simp)))
  obtain ⟨LF, hLF⟩ : ∃ LF : Nat, rLeft d ⟨zc, zp, za⟩ = LF := ⟨_, rfl⟩
  rw [hLF] at q1 q2
  have hleft : ((LF : Int) == LF) = true := by simp
  clear hLF hgen hbz kz herr k8
  go_quiet ((first
    | (go_at_call 32; exact Calls.quiet_of (q1.out _ ((Keep.refl _ _).drewN)))
    | (go_at_call 52; exact Calls.quiet_of (q2.out _ ((Keep.refl _ _).drewN)))
    | (go_at_call 26; exact Calls.quiet_of_same (num'_any _ _))))
  go_wp2_with fail
  go_returns
  exact ⟨rfl, _, hb8.keep ((Keep.refl [] w8).drewN) (by simp) (by simp) (by simp), kz8.drewN⟩

/-- read: both readers answer alike. -/
theorem readLaw_any (P X : Nat) (S : List Nat) (ra : Option Addr) (rc : Nat) (d : List UInt8) (s : RS) (c : Cl) (a : Option Addr) (l cap : Nat) (w : World) (hb : Beside w P S X ra rc d s) (hv : (Lit.int .i64 c.v).wf = true) (hd : d.length ≤ 140737488355328) :
    Calls Try.prog 24 #[.pointer (some ⟨P, 0, none⟩), .pointer (some ⟨X, 0, none⟩), clV c a l cap] w (Reads2 w P S X ra rc d) := by
  by_cases k1 : c.k = 1
  · exact read_num P X S ra rc d s c a l cap w hb hv k1
  · by_cases k2 : c.k = 2
    · exact read_fix P X S ra rc d s c a l cap w hb hv k2
    · by_cases k3 : c.k = 3
      · exact read_raw P X S ra rc d s c a l cap w hb hv k3 hd
      · by_cases k4 : c.k = 4
        · exact read_text P X S ra rc d s c a l cap w hb hv k4 hd
        · exact read_other P X S ra rc d s c a l cap w hb hv (by simpa using k1) (by simpa using k2) (by simpa using k3) (by simpa using k4)
end Go.Proofs.Ytkhplfgehcljmaa

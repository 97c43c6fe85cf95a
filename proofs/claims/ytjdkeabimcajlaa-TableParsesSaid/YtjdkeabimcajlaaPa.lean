/- Parse of the program. -/
import Derived.Test.YtjdkeabimcajlaaPp
import Derived.Test.YtjdkeabimcajlaaRw
set_option linter.unusedVariables false
set_option linter.unusedSimpArgs false
namespace Go.Proofs.Ytjdkeabimcajlaa
open Go.RowKit

theorem size5 : (Try.prog.info? 5).map (·.size) = some 1 := by kernel_rfl
theorem copy_part (w : World) (p o q c : Nat) (a : Option Addr) (xs : List UInt8) (Pp Sf : List Value) (hB : Blk w p (Pp ++ (bs (List.replicate 32 0) ++ Sf)).toArray 39) (hP : Pp.length = o) (hs : Sl w 5 1 (.slice a q c) q (bs xs)) (hx : xs.length = q) (hq : q ≤ 32) :
    ∃ w', (∀ ty, (Builtin.copy_ #[25, 25] ty #[.slice (some ⟨p, o, none⟩) 32 32, .slice a q c]).run Try.prog w = .ok (goInt (q : Nat)) w') ∧ (Blk w' p (Pp ++ (bs (pad32 xs) ++ Sf)).toArray 39 ∧ Keep [p] w w') := by
  obtain ⟨a', c', e, ea, hrd, hle, hm, hnil⟩ := hs.form
  obtain ⟨rfl, rfl⟩ : a = a' ∧ c = c' := by simpa using e
  have hpad : bs (pad32 xs) = bs xs ++ bs (List.replicate (32 - q) 0) := by rw [pad32_eq (by omega), bs_append, hx]
  have hz : bs (List.replicate 32 0) = bs (List.replicate q 0) ++ bs (List.replicate (32 - q) 0) := by rw [← bs_append, List.replicate_append_replicate]; congr 2; omega
  cases a with
  | none =>
    have hc := hnil rfl
    obtain rfl : q = 0 := by omega
    subst hc
    have e0 : xs = [] := List.eq_nil_of_length_eq_zero hx
    subst e0
    refine ⟨w, fun ty => run_copy_nil (P := Try.prog) w 25 25 ty 5 _ 32 32 Try.underlying25 (by rw [size5]; rfl), ?_, Keep.refl _ _⟩
    have : pad32 [] = List.replicate 32 0 := rfl
    rw [this]; exact hB
  | some ad =>
    have hrd' : ∀ j v, (bs xs)[j]? = some v → w.cell? (ad.add j) = some v := fun j v hj => by
      rcases hrd with e | ⟨b, o', e, hc⟩
      · rw [e] at hj; simp at hj
      · have e' : ad = ⟨b, o', none⟩ := by simpa using e
        rw [e', add_off]; exact hc j v hj
    obtain ⟨w', h1, h2, h3⟩ := copy_blk w 25 25 5 1 p o 32 32 ad q c q (Pp ++ (bs (List.replicate 32 0) ++ Sf)) Pp (bs (List.replicate q 0)) (bs (List.replicate (32 - q) 0) ++ Sf) (bs xs) 39 Try.underlying25 size5 hB (Nat.min_eq_left hq) (by rw [bs_length, hx, Nat.mul_one]) hrd' (bs_one xs)
      (by rw [hz, List.append_assoc]) hP (by rw [bs_length, bs_length, List.length_replicate, hx])
    refine ⟨w', h1, ?_, h3⟩
    rw [hpad, List.append_assoc]; exact h2
theorem raw32 (P : Nat) (S : List Nat) (d : List UInt8) (s s' : RS) (xs : List UInt8) (h : rRaw d s 32 = (xs, s')) (W : World) (hR : RdAt W P S d s) :
    Calls Try.prog 52 #[.pointer (some ⟨P, 0, none⟩), .int .i64 32] W fun e w' => ∃ a q c, e = .returned (.slice a q c) ∧ xs.length = q ∧ q ≤ 32 ∧ Sl w' 5 1 (.slice a q c) q (bs xs) ∧ RdAt w' P S d s' ∧ Keep [P] W w' := by
  have hl : xs.length ≤ 32 := by
    have : xs = (rRaw d s 32).1 := by rw [h]
    rw [this, rRaw]
    split
    · split
      · simp
      · split
        · simp
        · simp; omega
    · simp
  have hg := rraw_any P S d s 32 W hR (by omega)
  rw [h] at hg
  refine hg.mono ?_
  rintro e w' ⟨a, c, rfl, s1, f, r, k⟩
  exact ⟨a, _, c, rfl, rfl, hl, s1, r, k⟩

theorem last_cell {A B : List Value} (hA : A.length = 32) (hB : B.length = 32) (v : Value) : (A ++ (B ++ [v])).toArray[64]? = some v := by
  rw [List.getElem?_toArray, List.getElem?_append_right (by omega), hA, List.getElem?_append_right (by omega), hB]; rfl
theorem last_set {A B : List Value} (hA : A.length = 32) (hB : B.length = 32) {v u : Value} : (A ++ (B ++ [v])).toArray.setIfInBounds 64 u = (A ++ (B ++ [u])).toArray := by
  apply Array.ext'
  rw [Array.toList_setIfInBounds, List.toList_toArray, List.set_append_right _ _ (by omega), hA, List.set_append_right _ _ (by omega), hB]; rfl

/-- What holds ahead of the i-th result. -/
def PaI (w WL : World) (d : List UInt8) (s0 : RS) (P n : Nat) (S : List Nat) (v6 v17 : Value) (wr : World) : Prop :=
  ∃ (i : Nat) (ao : Option Addr) (co : Nat), i ≤ n ∧ v6 = .slice ao i co ∧ v17 = .int .i64 (i : Nat) ∧ Sl wr 39 65 (.slice ao i co) i (cellsOf (manyR d s0 i).1) ∧ RdAt wr P S d (manyR d s0 i).2 ∧ (∀ b ∈ blks (.slice ao i co), WL.heap.size ≤ b) ∧ Keep [] w wr ∧ WL.heap.size ≤ wr.heap.size

theorem PaI.next {w WL w6 : World} {d : List UInt8} {s0 s : RS} {P n i : Nat} {S : List Nat} {a6 : Option Addr} {c6 : Nat} {x : Res} {l : List Res} {k : Int} (hi : i + 1 ≤ n) (hk : k = (i + 1 : Nat)) (hl : (manyR d s0 i).1 = l) (hs : (manyR d s0 i).2 = s) (h1 : (takR d s).1 = x)
    (hS : Sl w6 39 65 (.slice a6 (i + 1) c6) (i + 1) (cellsOf l ++ x.cells)) (hR : RdAt w6 P S d (takR d s).2) (hb : ∀ b ∈ blks (.slice a6 (i + 1) c6), WL.heap.size ≤ b) (k6 : Keep [] w w6) (hz : WL.heap.size ≤ w6.heap.size) :
    PaI w WL d s0 P n S (.slice a6 (i + 1) c6) (.int .i64 k) w6 := by
  subst hk
  refine ⟨i + 1, a6, c6, hi, rfl, rfl, ?_, ?_, hb, k6, hz⟩
  · simp only [manyR, hl, hs, h1, cellsOf_append, cellsOf_one]; exact hS
  · simp only [manyR, hs]; exact hR

set_option maxHeartbeats 4000000 in
set_option maxRecDepth 100000 in
theorem parse_any (a : Option Addr) (n c : Nat) (d : List UInt8) (w : World) (hl : d.length = n) (hc : a = none → c = 0) (hrd : Rd w a (bs d)) (hn : n ≤ 140737488355328) :
    Calls Try.prog 32 #[.slice a n c] w (Give w (parT d) (parC d)) := by
  have HRD := Lib.hid (read_any a n c d w hl hc hrd hn)
  obtain ⟨m, s0, hnum⟩ : ∃ m s0, numR d = (m, s0) := ⟨_, _, rfl⟩
  have HN := Lib.hid (fun P S W h => by have := rnumber_any P S d ⟨0, 0, 0⟩ W h; rw [show rNumber d ⟨0, 0, 0⟩ = (m, s0) from hnum] at this; exact this : ∀ P S W, RdAt W P S d ⟨0, 0, 0⟩ → Calls Try.prog 51 #[.pointer (some ⟨P, 0, none⟩)] W fun e w' => e = .returned (.int .i64 m) ∧ RdAt w' P S d s0 ∧ Keep [P] W w')
  have HNUM := Lib.hid hnum
  clear hnum hl hrd hc
  by_cases hm : 32 < m
  · have i1 : (32 : Int) < m := by omega
    obtain ⟨g1, g2⟩ := par_no (d := d) (by rw [parO, HNUM.out]; exact if_pos hm)
    have HG := Lib.hid (And.intro g1 g2)
    clear g1 g2
    go_enter Try.func32, Try.ntmps32
    go_upto_region 2 with (first
      | (go_at_call 50; refine HRD.out.mono ?_; rintro e w1 ⟨P, S, rfl, hR1, hF1, k1⟩)
      | fail)
    go_wp2_with (first
      | (go_at_call 51; refine (HN.out P S _ hR1).mono ?_; rintro e w2 ⟨rfl, hR2, k2⟩)
      | fail)
    go_returns
    rw [HG.out.1, HG.out.2]
    exact Give.nil (k1.trans k2 (fun b hb => by simp only [List.mem_singleton] at hb; subst hb; rcases hF1 b hR1.self with h | h; cases h; exact Or.inr h))
  · have i1 : ¬ (32 : Int) < m := by omega
    obtain ⟨l, s, hml⟩ : ∃ l s, manyR d s0 m = (l, s) := ⟨_, _, rfl⟩
    have HP := Lib.hid (show parO d = if s.code ≠ 0 ∨ 0 < rLeft d s ∨ validR l = false then none else some l by
      rw [parO, HNUM.out, if_neg hm]; simp only [hml])
    have HML := Lib.hid hml
    clear hml
    go_enter Try.func32, Try.ntmps32
    go_upto_region 2 with (first
      | (go_at_call 50; refine HRD.out.mono ?_; rintro e w1 ⟨P, S, rfl, hR1, hF1, k1⟩)
      | fail)
    have hPw : w.heap.size ≤ P := by rcases hF1 P hR1.self with h | h; cases h; exact h
    go_upto_region 7 with (first
      | (go_at_call 51; refine (HN.out P S _ hR1).mono ?_; rintro e w2 ⟨rfl, hR2, k2⟩)
      | fail)
    have kk2 := k1.trans k2 (fun b hb => by simp only [List.mem_singleton] at hb; subst hb; exact Or.inr hPw)
    have hSlt := hR2.lt
    have hPS := hR2.self
    clear k1 k2 hR1
    go_loopw [6, 7, 17] (fun v6 _ v17 wr => PaI w w2 d s0 P m S v6 v17 wr) (fun _ _ v17 _ => m - (intOf v17).toNat)
    case atStart => exact ⟨0, none, 0, by omega, rfl, rfl, Sl.nil _ _ _, hR2, by intro b hb; simp [blks, Value.ownBlock] at hb, kk2, Nat.le_refl _⟩
    case round =>
      obtain ⟨i, ao, co, hi, rfl, rfl, sO, hRr, hbO, kk, hz⟩ := hrel
      by_cases hlt : i < m
      · have i3 : (0 : Int) ≤ i := by omega
        have i4 : (i : Int) < m := by omega
        obtain ⟨lo, hlo⟩ : ∃ lo, (manyR d s0 i).1 = lo := ⟨_, rfl⟩
        obtain ⟨sR, hsR⟩ : ∃ sR, (manyR d s0 i).2 = sR := ⟨_, rfl⟩
        obtain ⟨xs, s1, e1⟩ : ∃ xs s1, rRaw d sR 32 = (xs, s1) := ⟨_, _, rfl⟩
        obtain ⟨ys, s2, e2⟩ : ∃ ys s2, rRaw d s1 32 = (ys, s2) := ⟨_, _, rfl⟩
        obtain ⟨z, s3, e3⟩ : ∃ z s3, rFixed d s2 1 = (z, s3) := ⟨_, _, rfl⟩
        obtain ⟨x, hx⟩ : ∃ x, (takR d sR).1 = x := ⟨_, rfl⟩
        have hx3 : (takR d sR).2 = s3 := by simp only [takR, e1, e2, e3]
        have hxc : x.cells = bs (pad32 xs) ++ (bs (pad32 ys) ++ [.int .i64 (z : Nat)]) := by rw [← hx]; simp only [takR, e1, e2, e3, Res.cells]
        rw [hlo] at sO
        rw [hsR] at hRr
        have hlol : lo.length = i := by rw [← hlo, manyR_len]
        have RW3 := Lib.hid (raw32 P S d sR s1 xs e1)
        have RW5 := Lib.hid (raw32 P S d s1 s2 ys e2)
        have RF := Lib.hid (fun W h => by have := rfixed_any P S d s2 1 W h; rw [e3] at this; exact this : ∀ W, RdAt W P S d s2 → Calls Try.prog 53 #[.pointer (some ⟨P, 0, none⟩), .int .i64 1] W fun e w' => e = .returned (.int .i64 (z : Nat)) ∧ RdAt w' P S d s3 ∧ Keep [P] W w')
        have HX := Lib.hid (And.intro hx (And.intro hx3 (And.intro hxc (And.intro hlo (And.intro hsR hlol)))))
        clear e1 e2 e3 hx hx3 hxc hlo hsR hlol
        go_upto_region 9 with fail
        have BZ : Blk (wr.alloc (.cells Try.zeroCells39 39)) wr.heap.size Try.zeroCells39 39 := Blk.new _ _ _
        have kz : Keep [] wr (wr.alloc (.cells Try.zeroCells39 39)) := (Keep.refl [] wr).alloc _
        obtain ⟨wz, hwz⟩ : ∃ W, wr.alloc (.cells Try.zeroCells39 39) = W := ⟨_, rfl⟩
        obtain ⟨p, hp⟩ : ∃ P, wr.heap.size = P := ⟨_, rfl⟩
        have hpz : wz.heap.size = p + 1 := by rw [← hwz, ← hp]; simp
        have hpS : p ∉ S := fun h => by have := hSlt p h; omega
        have hpP : p ≠ P := fun h => hpS (h ▸ hPS)
        have hpO : ∀ b ∈ blks (.slice ao i co), b ≠ p := fun b hb => by have := sO.lt b hb; omega
        have hOS : ∀ b ∈ blks (.slice ao i co), b ∉ S := fun b hb hb' => by have := hbO b hb; have := hSlt b hb'; omega
        have hpw : w2.heap.size ≤ p := by omega
        have hpw0 : w.heap.size ≤ p := by have := kk2.size; omega
        rw [hwz] at BZ kz ⊢
        rw [hp] at BZ ⊢
        have BZ1 : Blk wz p (([] : List Value) ++ (bs (List.replicate 32 0) ++ (bs (List.replicate 32 0) ++ [Value.int .i64 0]))).toArray 39 := by rw [← zero_blk] at BZ; exact BZ
        have hR2 := hRr.keep kz (by simp)
        have sOz := sO.keep kz (by simp)
        have kkz := kk.trans' kz
        clear hwz hp BZ kz hRr sO kk
        refine wp_region_noPanic ?_
        refine wp_region_held_drew (S := fun W' => Keep [P, p] wz W') (by kernel_rfl) ?_ (fun hHeld0 => ?_)
        · (try dsimp only); first | exact (Keep.refl [P, p] _).drew | exact ((Keep.refl [P, p] wz).drew).trans k3 (by simp) | exact (((Keep.refl [P, p] wz).drew).trans k3 (by simp)).trans k4 (by simp)
        refine wpAnyH_take (i := 0) (oi := ({ dst := some 19, op := Go.Op.fieldAddr 39 (Go.Operand.tmp 7) 0, type := 0, pos := "table.go:57", after := #[], guard := none } : Oper)) (v := ?_) rfl (by kernel_rfl) (by kernel_rfl) (by kernel_rfl) (fun _ _ _ h => h) (Or.inl ⟨by rfl, ?_⟩) (by assumption) ?_
        rotate_left
        · (intro w hSw; (try dsimp only at hSw); go_simp; try with_reducible rfl)
        try simp only [Act.put, List.setIfInBounds_toArray, List.set_cons_zero, List.set_cons_succ]
        refine wpAnyH_take (i := 1) (oi := ({ dst := some 20, op := Go.Op.slice 37 (Go.Operand.tmp 19) none none none, type := 25, pos := "table.go:57", after := #[{ on := 0, ground := Go.Ground.data }], guard := none } : Oper)) (v := ?_) rfl (by kernel_rfl) (by kernel_rfl) (by kernel_rfl) (fun _ _ _ h => h) (Or.inl ⟨by rfl, ?_⟩) (by assumption) ?_
        rotate_left
        · (intro w hSw; (try dsimp only at hSw); go_simp; try with_reducible rfl)
        try simp only [Act.put, List.setIfInBounds_toArray, List.set_cons_zero, List.set_cons_succ]
        refine wpAnyH_take (i := 2) (oi := ({ dst := some 21, op := Go.Op.move (Go.Operand.tmp 4), type := 83, pos := "table.go:57", after := #[], guard := none } : Oper)) (v := ?_) rfl (by kernel_rfl) (by kernel_rfl) (by kernel_rfl) (fun _ _ _ h => h) (Or.inl ⟨by rfl, ?_⟩) (by assumption) ?_
        rotate_left
        · (intro w hSw; (try dsimp only at hSw); go_simp; try with_reducible rfl)
        try simp only [Act.put, List.setIfInBounds_toArray, List.set_cons_zero, List.set_cons_succ]
        refine wpAnyH_ready (rs := [3]) (by kernel_rfl) (by simp) ?_
        refine (AllReadyH.cons (o := ({ dst := some 22, op := Go.Op.call { callee := Go.Callee.value (Go.Operand.func 52), args := #[Go.Operand.tmp 21, Go.Operand.const (Go.Value.int Go.IntKind.i64 32)], argTypes := #[83, 3] }, type := 25, pos := "table.go:57", after := #[{ on := 2, ground := Go.Ground.data }], guard := none } : Oper)) rfl (fun K hK => ?_) AllReadyH.nil)
        go_simp
        (refine (RW3.out _ (hR2.keep ((Keep.refl [] wz).drew) (by simp))).mono ?_; rintro e w3 ⟨a3, q3, c3, rfl, hq3, hqm3, sl3, hR3, k3⟩)
        go_wp2_with fail
        refine hK.out _ _ ?_ (fun hHeld1 => ?_)
        · (try dsimp only); first | exact (Keep.refl [P, p] _).drew | exact ((Keep.refl [P, p] wz).drew).trans k3 (by simp) | exact (((Keep.refl [P, p] wz).drew).trans k3 (by simp)).trans k4 (by simp)
        clear hK K
        try simp only [Act.put, List.setIfInBounds_toArray, List.set_cons_zero, List.set_cons_succ]
        refine wpAnyH_ready (rs := [4]) (by kernel_rfl) (by simp) ?_
        refine (AllReadyH.cons (o := ({ dst := some 23, op := Go.Op.call { callee := Go.Callee.builtin Go.Builtin.copy, args := #[Go.Operand.tmp 20, Go.Operand.tmp 22], argTypes := #[25, 25] }, type := 3, pos := "table.go:57", after := #[{ on := 1, ground := Go.Ground.data }, { on := 3, ground := Go.Ground.data }, { on := 3, ground := Go.Ground.chain }], guard := none } : Oper)) rfl (fun K hK => ?_) AllReadyH.nil)
        (refine step_copyW rfl (.tmp 20) (.tmp 22) 25 25 rfl _ _ rfl rfl (copy_part _ p 0 q3 c3 a3 xs [] (bs (List.replicate 32 0) ++ [Value.int .i64 0]) ((BZ1.drew).keep k3 (by simp only [List.mem_singleton]; omega)) rfl sl3 hq3 hqm3) ?_; rintro w4 ⟨B4, k4⟩)
        refine hK.out _ _ ?_ (fun hHeld2 => ?_)
        · (try dsimp only); first | exact (Keep.refl [P, p] _).drew | exact ((Keep.refl [P, p] wz).drew).trans k3 (by simp) | exact (((Keep.refl [P, p] wz).drew).trans k3 (by simp)).trans k4 (by simp)
        clear hK K
        try simp only [Act.put, List.setIfInBounds_toArray, List.set_cons_zero, List.set_cons_succ]
        refine wpAnyH_done (by kernel_rfl) ?_ _
        refine NoPanic.normal ?_
        skip
        rw [List.nil_append] at B4
        have hR4 := hR3.keep k4 (fun b hb => by simp only [List.mem_singleton]; intro e; exact hpS (e ▸ hb))
        have k34 : Keep [P, p] wz w4 := ((Keep.refl [P, p] wz).drew.trans k3 (by simp)).trans k4 (by simp)
        clear hR2 hR3 sl3 hq3 hqm3 k3 k4 RW3
        go_upto_region 10 with fail
        refine wp_region_noPanic ?_
        refine wp_region_held_drew (S := fun W' => Keep [P, p] w4 W') (by kernel_rfl) ?_ (fun hHeld0 => ?_)
        · (try dsimp only); first | exact (Keep.refl [P, p] _).drew | exact ((Keep.refl [P, p] w4).drew).trans k5 (by simp) | exact (((Keep.refl [P, p] w4).drew).trans k5 (by simp)).trans k6 (by simp)
        refine wpAnyH_take (i := 0) (oi := ({ dst := some 24, op := Go.Op.fieldAddr 39 (Go.Operand.tmp 7) 1, type := 0, pos := "table.go:58", after := #[], guard := none } : Oper)) (v := ?_) rfl (by kernel_rfl) (by kernel_rfl) (by kernel_rfl) (fun _ _ _ h => h) (Or.inl ⟨by rfl, ?_⟩) (by assumption) ?_
        rotate_left
        · (intro w hSw; (try dsimp only at hSw); go_simp; try with_reducible rfl)
        try simp only [Act.put, List.setIfInBounds_toArray, List.set_cons_zero, List.set_cons_succ]
        refine wpAnyH_take (i := 1) (oi := ({ dst := some 25, op := Go.Op.slice 37 (Go.Operand.tmp 24) none none none, type := 25, pos := "table.go:58", after := #[{ on := 0, ground := Go.Ground.data }], guard := none } : Oper)) (v := ?_) rfl (by kernel_rfl) (by kernel_rfl) (by kernel_rfl) (fun _ _ _ h => h) (Or.inl ⟨by rfl, ?_⟩) (by assumption) ?_
        rotate_left
        · (intro w hSw; (try dsimp only at hSw); go_simp; try with_reducible rfl)
        try simp only [Act.put, List.setIfInBounds_toArray, List.set_cons_zero, List.set_cons_succ]
        refine wpAnyH_take (i := 2) (oi := ({ dst := some 26, op := Go.Op.move (Go.Operand.tmp 4), type := 83, pos := "table.go:58", after := #[], guard := none } : Oper)) (v := ?_) rfl (by kernel_rfl) (by kernel_rfl) (by kernel_rfl) (fun _ _ _ h => h) (Or.inl ⟨by rfl, ?_⟩) (by assumption) ?_
        rotate_left
        · (intro w hSw; (try dsimp only at hSw); go_simp; try with_reducible rfl)
        try simp only [Act.put, List.setIfInBounds_toArray, List.set_cons_zero, List.set_cons_succ]
        refine wpAnyH_ready (rs := [3]) (by kernel_rfl) (by simp) ?_
        refine (AllReadyH.cons (o := ({ dst := some 27, op := Go.Op.call { callee := Go.Callee.value (Go.Operand.func 52), args := #[Go.Operand.tmp 26, Go.Operand.const (Go.Value.int Go.IntKind.i64 32)], argTypes := #[83, 3] }, type := 25, pos := "table.go:58", after := #[{ on := 2, ground := Go.Ground.data }], guard := none } : Oper)) rfl (fun K hK => ?_) AllReadyH.nil)
        go_simp
        (refine (RW5.out _ (hR4.keep ((Keep.refl [] w4).drew) (by simp))).mono ?_; rintro e w5 ⟨a5, q5, c5, rfl, hq5, hqm5, sl5, hR5, k5⟩)
        go_wp2_with fail
        refine hK.out _ _ ?_ (fun hHeld1 => ?_)
        · (try dsimp only); first | exact (Keep.refl [P, p] _).drew | exact ((Keep.refl [P, p] w4).drew).trans k5 (by simp) | exact (((Keep.refl [P, p] w4).drew).trans k5 (by simp)).trans k6 (by simp)
        clear hK K
        try simp only [Act.put, List.setIfInBounds_toArray, List.set_cons_zero, List.set_cons_succ]
        refine wpAnyH_ready (rs := [4]) (by kernel_rfl) (by simp) ?_
        refine (AllReadyH.cons (o := ({ dst := some 28, op := Go.Op.call { callee := Go.Callee.builtin Go.Builtin.copy, args := #[Go.Operand.tmp 25, Go.Operand.tmp 27], argTypes := #[25, 25] }, type := 3, pos := "table.go:58", after := #[{ on := 1, ground := Go.Ground.data }, { on := 3, ground := Go.Ground.data }, { on := 3, ground := Go.Ground.chain }], guard := none } : Oper)) rfl (fun K hK => ?_) AllReadyH.nil)
        (refine step_copyW rfl (.tmp 25) (.tmp 27) 25 25 rfl _ _ rfl rfl (copy_part _ p 32 q5 c5 a5 ys (bs (pad32 xs)) [Value.int .i64 0] ((B4.drew).keep k5 (by simp only [List.mem_singleton]; omega)) (by rw [bs_length, pad32_len]) sl5 hq5 hqm5) ?_; rintro w6 ⟨B6, k6⟩)
        refine hK.out _ _ ?_ (fun hHeld2 => ?_)
        · (try dsimp only); first | exact (Keep.refl [P, p] _).drew | exact ((Keep.refl [P, p] w4).drew).trans k5 (by simp) | exact (((Keep.refl [P, p] w4).drew).trans k5 (by simp)).trans k6 (by simp)
        clear hK K
        try simp only [Act.put, List.setIfInBounds_toArray, List.set_cons_zero, List.set_cons_succ]
        refine wpAnyH_done (by kernel_rfl) ?_ _
        refine NoPanic.normal ?_
        skip
        have hR6 := hR5.keep k6 (fun b hb => by simp only [List.mem_singleton]; intro e; exact hpS (e ▸ hb))
        have k56 : Keep [P, p] w4 w6 := ((Keep.refl [P, p] w4).drew.trans k5 (by simp)).trans k6 (by simp)
        clear hR4 hR5 B4 sl5 hq5 hqm5 k5 k6 RW5
        go_upto_region 12 with (first
          | (go_at_call 53; refine (RF.out _ hR6).mono ?_; rintro e w7 ⟨rfl, hR7, k7⟩; have B7 := B6.keep k7 (by simp only [List.mem_singleton]; exact hpP); have c7 := B7.cell (i := 64) (last_cell (A := bs (pad32 xs)) (B := bs (pad32 ys)) (by rw [bs_length, pad32_len]) (by rw [bs_length, pad32_len]) _); have f7 : w7.frozen? ⟨p, 64, none⟩ = false := B7.free)
          | fail)
        have B8 : Blk (w7.setCell ⟨p, 64, none⟩ (.int .i64 (z : Nat))) p x.cells.toArray 39 := by
          have h := B7.set 64 (.int .i64 (z : Nat))
          rw [last_set (by rw [bs_length, pad32_len]) (by rw [bs_length, pad32_len])] at h
          rw [HX.out.2.2.1]; exact h
        have k8 : Keep [P, p] w6 (w7.setCell ⟨p, 64, none⟩ (.int .i64 (z : Nat))) := (k7.mono (T := [P, p]) (by simp)).set (Or.inl (by simp)) _
        have hR8 : RdAt (w7.setCell ⟨p, 64, none⟩ (.int .i64 (z : Nat))) P S d s3 := hR7.keep (Keep.set_one w7 ⟨p, 64, none⟩ _) (fun b hb => by simp only [List.mem_singleton]; intro e; exact hpS (e ▸ hb))
        obtain ⟨w8, hw8⟩ : ∃ W, w7.setCell ⟨p, 64, none⟩ (.int .i64 (z : Nat)) = W := ⟨_, rfl⟩
        rw [hw8] at B8 k8 hR8 ⊢
        have kz8 := (k34.trans k56 (by simp)).trans k8 (by simp)
        clear hw8 B7 c7 f7 k7 hR7 hR6 B6 k34 k56 k8 RF
        have hPp : ∀ b ∈ [P, p], b ∉ blks (.slice ao i co) := fun b hb hb' => by
          simp only [List.mem_cons, List.not_mem_nil, or_false] at hb
          rcases hb with rfl | rfl
          · exact hOS b hb' hPS
          · exact hpO b hb' rfl
        have sO8 := sOz.keep kz8 (fun b hb hb' => hPp b hb' hb)
        have kk8 : Keep [] w w8 := kkz.trans kz8 (fun b hb => by
          simp only [List.mem_cons, List.not_mem_nil, or_false] at hb
          rcases hb with rfl | rfl
          · exact Or.inr hPw
          · exact Or.inr hpw0)
        have hz8 : w2.heap.size ≤ w8.heap.size := by have := kz8.size; omega
        clear sOz kkz kz8
        obtain ⟨q8, hq8⟩ : ∃ q, w8.heap.size = q := ⟨_, rfl⟩
        obtain ⟨w9, hw9⟩ : ∃ W, w8.alloc (.cells x.cells.toArray 39) = W := ⟨_, rfl⟩
        have hab := after_build (x := x) sO8
        rw [hw9, hq8] at hab
        have hR9 := hR8.keep hab.2.2 (by simp)
        have HW9 := Lib.hid hw9
        have HQ8 := Lib.hid hq8
        have i32 : i + 1 ≤ 32 := by omega
        clear hw9 hq8
        go_upto_region 13 with (first
          | (refine wpList_load_mid rfl 39 (.tmp 7) rfl p 0 rfl x.cells _ (rangeAt_of_blk B8) Try.underlying39 rfl (hi39 x) ?_)
          | (refine wpList_build1 rfl 22 39 (.tmp 33) rfl x.cells.toArray rfl (.agg Try.zeroCells39) 65 72 Try.underlying22 info39 (by simp [x.len]) (by omega) (by omega) ?_; rw [HW9.out, HQ8.out])
          | (at_builtin; go_must (refine wpList_appendN rfl (.tmp 32) (.tmp 34) 22 rfl 39 (.agg Try.zeroCells39) 65 72 Try.underlying22 info39 zero39 (by omega) (.slice ao i co) i (cellsOf lo) rfl hab.1 (some ⟨q8, 0, none⟩) 1 1 x.cells rfl (res_len1 x) (by simp) hab.2.1 x.one (by simp only [maxLen]; omega) (by omega) ?_; intro a6 c6 w10 hs6 hk6 hf6))
          | fail)
        go_wp2_with fail
        have hb6 : ∀ b ∈ blks (.slice a6 (i + 1) c6), w2.heap.size ≤ b := fun b hb => by
          rcases hf6 b hb with h | h
          · exact hbO b h
          · have := hab.2.2.size; omega
        have kk10 : Keep [] w w10 := (kk8.trans' hab.2.2).trans hk6 (fun b hb => Or.inr (by have := hbO b hb; have := kk2.size; omega))
        have hz10 : w2.heap.size ≤ w10.heap.size := by have := hab.2.2.size; have := hk6.size; omega
        have hR10 := hR9.keep hk6 (fun b hb hb' => hOS b hb' hb)
        exact ⟨PaI.next (by omega) (by go_num) HX.out.2.2.2.1 HX.out.2.2.2.2.1 HX.out.1 hs6 (by rw [HX.out.2.1]; exact hR10) hb6 kk10 hz10, by simp [intOf]; omega⟩
      · obtain rfl : i = m := by omega
        have hm1 : (manyR d s0 i).1 = l := by rw [HML.out]
        have hm2 : (manyR d s0 i).2 = s := by rw [HML.out]
        rw [hm1] at sO
        rw [hm2] at hRr
        have hll : l.length = i := by rw [← hm1, manyR_len]
        have HF0 : Fr w [] (blks (.slice ao i co)) := fun b hb => Or.inr (by have := hbO b hb; have := kk2.size; omega)
        have HLL := Lib.hid hll
        clear hm1 hm2 hll
        go_upto_region 15 with (first
          | (go_at_call 54; refine (rerr_any P S d s _ hRr).mono ?_; rintro e w3 ⟨rfl, hR3, k3⟩)
          | fail)
        have kk3 := kk.trans' k3
        have sO3 := sO.keep k3 (by simp)
        obtain ⟨cd, hcd⟩ : ∃ c, s.code = c := ⟨_, rfl⟩
        rw [hcd]
        have HP2 := HP
        rw [hcd] at HP2
        have HCD := Lib.hid hcd
        clear hcd HP
        by_cases q1 : cd = 0
        · subst q1
          obtain ⟨lf, hlf⟩ : ∃ n, rLeft d s = n := ⟨_, rfl⟩
          rw [hlf] at HP2
          have L1 := Lib.hid (fun W h => by have := rleft_any P S d s W h; rw [hlf] at this; exact this : ∀ W, RdAt W P S d s → Calls Try.prog 55 #[.pointer (some ⟨P, 0, none⟩)] W fun e w' => e = .returned (.int .i64 (lf : Nat)) ∧ RdAt w' P S d s ∧ Keep [] W w')
          clear hlf
          by_cases q2 : lf = 0
          · subst q2
            have V1 := Lib.hid (fun a n c W h => valid_any a n c l W h : ∀ a n c W, RsIn W a n c l → Calls Try.prog 17 #[.slice a n c] W fun e w' => e = .returned (.bool (validR l)) ∧ Keep [] W w')
            cases hv : validR l with
            | true =>
              rw [hv] at V1 HP2
              obtain ⟨g1, g2⟩ := par_yes (d := d) (l := l) (by rw [HP2.out]; simp)
              have HG := Lib.hid (And.intro g1 g2)
              clear g1 g2 hv HP2
              go_wp2_with (first
                | (go_at_call 55; refine (L1.out _ hR3).mono ?_; rintro e w4 ⟨rfl, hR4, k4⟩)
                | (go_at_call 17; refine (V1.out _ _ _ _ (RsIn.of_sl (sO3.keep k4 (by simp)) HLL.out (by omega))).mono ?_; rintro e w5 ⟨rfl, k5⟩)
                | fail)
              go_returns
              rw [HG.out.1, HG.out.2]
              have s5 := (sO3.keep k4 (by simp)).keep k5 (by simp)
              have e1 := HLL.out
              subst e1
              exact ⟨ao, co, rfl, s5, HF0, (kk3.trans' k4).trans' k5⟩
            | false =>
              rw [hv] at V1 HP2
              obtain ⟨g1, g2⟩ := par_no (d := d) (by rw [HP2.out]; simp)
              have HG := Lib.hid (And.intro g1 g2)
              clear g1 g2 hv HP2
              go_wp2_with (first
                | (go_at_call 55; refine (L1.out _ hR3).mono ?_; rintro e w4 ⟨rfl, hR4, k4⟩)
                | (go_at_call 17; refine (V1.out _ _ _ _ (RsIn.of_sl (sO3.keep k4 (by simp)) HLL.out (by omega))).mono ?_; rintro e w5 ⟨rfl, k5⟩)
                | fail)
              go_returns
              rw [HG.out.1, HG.out.2]
              exact Give.nil ((kk3.trans' k4).trans' k5)
          · have q3 : (0 : Int) < lf := by omega
            obtain ⟨g1, g2⟩ := par_no (d := d) (by rw [HP2.out]; simp; omega)
            have HG := Lib.hid (And.intro g1 g2)
            clear g1 g2 HP2
            go_wp2_with (first
              | (go_at_call 55; refine (L1.out _ hR3).mono ?_; rintro e w4 ⟨rfl, hR4, k4⟩)
              | fail)
            go_returns
            rw [HG.out.1, HG.out.2]
            exact Give.nil (kk3.trans' k4)
        · have q2 : (cd != 0) = true := by simpa using q1
          obtain ⟨g1, g2⟩ := par_no (d := d) (by rw [HP2.out]; simp [q1])
          have HG := Lib.hid (And.intro g1 g2)
          clear g1 g2 HP2
          go_wp2_with fail
          go_returns
          rw [HG.out.1, HG.out.2]
          exact Give.nil kk3
end Go.Proofs.Ytjdkeabimcajlaa

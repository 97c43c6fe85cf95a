/- The reference's reader: TakeRaw, TakeText. -/
import Derived.Test.YtkhplfgehcljmaaN
set_option linter.unusedVariables false
set_option linter.unusedSimpArgs false
namespace Go.Proofs.Ytkhplfgehcljmaa
open Go.RowKit

/-- A row that the document's reader read. -/
def RefGives (w : World) (X : Nat) (a : Option Addr) (c : Nat) (d : List UInt8) (res : List UInt8 × RS) (e : Ending) (w' : World) : Prop :=
  ∃ a' c', e = .returned (.slice a' res.1.length c') ∧ Sl w' 5 1 (.slice a' res.1.length c') res.1.length (bs res.1) ∧ Fr w [] (blks (.slice a' res.1.length c')) ∧ RefAt w' X a c d res.2 ∧ Keep [X] w w'
theorem RefGives.none {w w' : World} {X : Nat} {a : Option Addr} {c : Nat} {d : List UInt8} {s : RS} (h : RefAt w' X a c d s) (k : Keep [X] w w') : RefGives w X a c d ([], s) (.returned (.slice none 0 0)) w' :=
  ⟨Option.none, 0, rfl, Sl.nil _ _ _, by intro b hb; simp [blks, Value.ownBlock] at hb, h, k⟩

set_option maxHeartbeats 2000000 in
theorem takeRaw_short (X : Nat) (a : Option Addr) (c : Nat) (d : List UInt8) (s : RS) (n : Int) (w : World) (h : RefAt w X a c d s) (hc : s.code = 0) (hn : 0 ≤ n) (hn1 : n ≤ 9223372036854775807) (hs : (d.length : Int) < s.at' + n) :
    Calls Try.prog 40 #[.pointer (some ⟨X, 0, none⟩), .int .i64 n] w fun e w' => e = .returned (.slice none 0 0) ∧ RefAt w' X a c d (s.spoil 10) ∧ Keep [X] w w' := by
  obtain ⟨A, L, o⟩ := h.opened
  have c0 : w.cell? ⟨X, 0, none⟩ = some (.slice a L c) := o.blk.cell (i := 0) rfl
  have c1 : w.cell? ⟨X, 1, none⟩ = some (.int .i64 A) := o.blk.cell (i := 1) rfl
  have c2 : w.cell? ⟨X, 2, none⟩ = some (.int .i64 s.code) := o.blk.cell (i := 2) rfl
  rw [hc] at c2
  rw [o.hA.out, o.hL.out] at hs
  have HC := Lib.hid hc
  have g1 := o.h1
  have g2 := o.h2
  have e1 : IntKind.i64.wrap ((L : Int) - A) = L - A := IntWalk.i64_in _ (by omega)
  have t3 : decide ((L : Int) - A < n) = true := by simp; omega
  have t4 : decide (n < 0) = false := by simp; omega
  clear hc hs
  go_enter Try.func40, Try.ntmps40
  go_wp2_with fail
  go_quiet (fail)
  have hB : Blk (w.drewN nq) X #[.slice a L c, .int .i64 A, .int .i64 s.code, .int .i64 s.place] 53 := o.blk.drewN
  have hk2 : Keep [X] w (w.drewN nq) := (Keep.refl _ _).drewN
  generalize w.drewN nq = wc at hB hk2 ⊢
  clear c0 c1 c2
  go_wp2_with (first
    | (go_at_call 59; refine (refSpoil_any X a L c A s.code s.place 10 _ hB).mono ?_; rintro e w3 ⟨rfl, hB1, hk1⟩)
    | fail)
  go_returns
  exact ⟨rfl, o.spoilt HC hk2 hk1 hB1⟩

/-- A row that was made and copied into; then the reader goes on. -/
theorem RefOpened.got {w w5 w6 : World} {X G : Nat} {a : Option Addr} {c : Nat} {d R : List UInt8} {s : RS} {A L n N : Nat} (o : RefOpened w X a c d s A L) (hc : Hid (s.code = 0)) (kd : Keep [X] w w5) (hk6 : Keep [G] w5 w6)
    (hB : Blk w5 X #[.slice a L c, .int .i64 A, .int .i64 s.code, .int .i64 s.place] 53) (hB6 : Blk w6 G ((bs (List.replicate n 0)).take 0 ++ (bs R ++ (bs (List.replicate n 0)).drop (0 + (bs R).length))).toArray 5)
    (hRl : R.length = n) (hGX : X ≠ G) (hGw : w.heap.size ≤ G) (hs : N ≤ L) (hn : n ≤ 140737488351232) :
    RefGives w X a c d (R, ⟨0, s.place, N⟩) (.returned (.slice (some ⟨G, 0, none⟩) n n)) (w6.setCell ⟨X, 1, none⟩ (.int .i64 N)) := by
  have hX6 := hB.keep hk6 (by simpa using hGX)
  have hG6 : Blk w6 G (bs R).toArray 5 := by
    have e : (bs (List.replicate n 0)).take 0 ++ (bs R ++ (bs (List.replicate n 0)).drop (0 + (bs R).length)) = bs R := by
      rw [List.take_zero, List.nil_append, List.drop_eq_nil_of_le (by rw [bs_length, bs_length, List.length_replicate]; omega), List.append_nil]
    rw [e] at hB6; exact hB6
  have k6 : Keep [X] w w6 := kd.trans hk6 (by simpa using Or.inr hGw)
  have k7 : Keep [X] w (w6.setCell ⟨X, 1, none⟩ (.int .i64 N)) := k6.set (Or.inl (by simp)) _
  have hG7 := hG6.setOther (a := ⟨X, 1, none⟩) (fun e => hGX e.symm) (.int .i64 N)
  refine ⟨some ⟨G, 0, none⟩, n, by simp only; rw [hRl], ?_, ?_, o.back.out _ ⟨0, s.place, N⟩ k7 ?_ hs, k7⟩
  · simp only
    rw [hRl]
    exact ⟨by rw [bs_length, hRl, Nat.mul_one], Or.inr ⟨G, n, [], [], rfl, by simpa using hG7, Nat.le_refl _, by rw [bs_length, hRl]; simp, by simp only [maxLen]; omega⟩⟩
  · intro b hb
    simp [blks, Value.ownBlock] at hb
    exact Or.inr (by omega)
  · have := hX6.set 1 (.int .i64 N)
    rw [hc.out] at this
    exact this

set_option maxHeartbeats 4000000 in
set_option maxRecDepth 100000 in
theorem takeRaw_some (X : Nat) (a : Option Addr) (c : Nat) (d : List UInt8) (s : RS) (n : Nat) (w : World) (h : RefAt w X a c d s) (hc : s.code = 0) (hs : s.at' + n ≤ d.length) :
    Calls Try.prog 40 #[.pointer (some ⟨X, 0, none⟩), .int .i64 n] w (RefGives w X a c d ((d.drop s.at').take n, ⟨0, s.place, s.at' + n⟩)) := by
  obtain ⟨A, L, o⟩ := h.opened
  have c0 : w.cell? ⟨X, 0, none⟩ = some (.slice a L c) := o.blk.cell (i := 0) rfl
  have c1 : w.cell? ⟨X, 1, none⟩ = some (.int .i64 A) := o.blk.cell (i := 1) rfl
  have c2 : w.cell? ⟨X, 2, none⟩ = some (.int .i64 s.code) := o.blk.cell (i := 2) rfl
  rw [hc] at c2
  rw [o.hA.out, o.hL.out] at hs
  rw [o.hA.out]
  have HC := Lib.hid hc
  have g1 := o.h1
  have g2 := o.h2
  have e1 : IntKind.i64.wrap ((L : Int) - A) = L - A := IntWalk.i64_in _ (by omega)
  have t3 : decide ((L : Int) - A < n) = false := by simp; omega
  have hmk := mk_any n (by omega)
  have hXlt := o.blk.lt
  clear hc
  go_enter Try.func40, Try.ntmps40
  go_wp2_with fail
  go_quiet (fail)
  have hB : Blk (w.drewN nq) X #[.slice a L c, .int .i64 A, .int .i64 s.code, .int .i64 s.place] 53 := o.blk.drewN
  have hk2 : Keep [X] w (w.drewN nq) := (Keep.refl _ _).drewN
  generalize w.drewN nq = wc at hB hk2 ⊢
  clear c0 c1 c2
  go_upto_region 10 with fail
  have hG := Blk.new wc (Array.replicate n (B8 0)) 5
  have hB1 := hB.alloc (.cells (Array.replicate n (B8 0)) 5)
  have hk3 := hk2.alloc (.cells (Array.replicate n (B8 0)) 5)
  obtain ⟨G, hGG⟩ : ∃ G, wc.heap.size = G := ⟨_, rfl⟩
  have hGX : X ≠ G := by have := hB.lt; omega
  have hGw : w.heap.size ≤ G := by have := hk2.size; omega
  rw [hGG] at hG ⊢
  generalize wc.alloc (.cells (Array.replicate n (B8 0)) 5) = wd at hG hB1 hk3 ⊢
  rw [rep_bs] at hG
  clear hGG hB hk2 hmk t3
  have d0 : wd.cell? ⟨X, 0, none⟩ = some (.slice a L c) := hB1.cell (i := 0) rfl
  have d1 : wd.cell? ⟨X, 1, none⟩ = some (.int .i64 A) := hB1.cell (i := 1) rfl
  have h3 := o.h3
  have h4 := o.h4
  have hRl : ((d.drop A).take n).length = n := by rw [List.length_take, List.length_drop, o.hL.out]; omega
  obtain ⟨R, hR⟩ : ∃ R, (d.drop A).take n = R := ⟨_, rfl⟩
  rw [hR] at hRl ⊢
  have hsrc : (c = A ∧ n = 0 ∧ L = A ∧ R = []) ∨ (c ≠ A ∧ ∃ g off, a = some ⟨g, off, none⟩ ∧ Rd wd.drew (some ⟨g, off + A, none⟩) (bs R)) ∨ (c ≠ A ∧ ∃ ad, a = some ad ∧ n = 0 ∧ L = 0 ∧ A = 0 ∧ R = []) := by
    by_cases e : c = A
    · exact Or.inl ⟨e, by omega, by omega, List.eq_nil_of_length_eq_zero (by omega)⟩
    · right
      have hr := o.rd.out wd hk3
      rcases hr with h0 | ⟨b, off, rfl, hcells⟩
      · have hd : d = [] := by simpa [bs] using h0
        have hL := o.hL.out
        rw [hd] at hL
        simp only [List.length_nil] at hL
        have hRn : R = [] := List.eq_nil_of_length_eq_zero (by omega)
        cases ha : a with
        | none => have := o.hnil ha; omega
        | some ad => exact Or.inr ⟨e, ad, rfl, by omega, by omega, by omega, hRn⟩
      · have := Rd.part (show Rd wd (some ⟨b, off, none⟩) (bs d) from Or.inr ⟨b, off, rfl, hcells⟩) A n
        rw [hR] at this
        exact Or.inl ⟨e, b, off, rfl, this⟩
  have HRL := Lib.hid hRl
  have HR := Lib.hid hR
  clear hRl hR
  have hGd := hG.drew
  have hB1d := hB1.drew
  have kd := hk3.drew
  rcases hsrc with ⟨q1, rfl, q2, rfl⟩ | ⟨q1, g, off, rfl, hrd'⟩ | ⟨q1, ad, rfl, rfl, rfl, rfl, rfl⟩
  · subst q2
    go_still_tail 10, (by kernel_rfl)
    change wpList _ _ _ _ _ wd.drew
    generalize wd.drew = w5 at hGd hB1d kd ⊢
    go_wp2_with (first
      | (refine wpList_copyB rfl (.tmp 31) (.tmp 40) 23 23 rfl 5 Try.underlying23 size5 (some ⟨G, 0, none⟩) a 0 0 0 0 rfl rfl G 0 (bs (List.replicate 0 0)) 5 hGd (bs []) rfl (fun _ => rfl) Rd.nil (by simp) (bs_one _) ?_; intro w6 hB6 hk6 hs6; have hX6 := hB1d.keep hk6 (by simpa using hGX); have d1 : w6.cell? ⟨X, 1, none⟩ = some (.int .i64 L) := hX6.cell (i := 1) rfl; have f1 := hX6.free (i := 1))
      | fail)
    go_returns
    have hN : ((L : Int)) = ((L : Nat) : Int) := by omega
    rw [hN]
    exact o.got HC kd hk6 hB1d hB6.out HRL.out hGX hGw (by omega) (by omega)
  · go_still_tail 10, (by kernel_rfl)
    change wpList _ _ _ _ _ wd.drew
    generalize wd.drew = w5 at hGd hB1d kd hrd' ⊢
    go_wp2_with (first
      | (refine wpList_copyB rfl (.tmp 31) (.tmp 40) 23 23 rfl 5 Try.underlying23 size5 (some ⟨G, 0, none⟩) (some ⟨g, off + A, none⟩) n n (L - A) (c - A) rfl rfl G 0 (bs (List.replicate n 0)) 5 hGd (bs R) (by rw [bs_length, HRL.out]; exact (Nat.min_eq_right (by omega)).symm) (fun _ => rfl) hrd' (by rw [bs_length, bs_length, HRL.out]; simp) (bs_one _) ?_; intro w6 hB6 hk6 hs6; have hX6 := hB1d.keep hk6 (by simpa using hGX); have d1 : w6.cell? ⟨X, 1, none⟩ = some (.int .i64 A) := hX6.cell (i := 1) rfl; have f1 := hX6.free (i := 1))
      | fail)
    go_returns
    have hN : ((A : Int) + n) = ((A + n : Nat) : Int) := by omega
    rw [hN]
    have hg := o.got HC kd hk6 hB1d hB6.out HRL.out hGX hGw (show A + n ≤ L by omega) (by omega)
    rw [← HR.out] at hg
    exact hg
  · go_still_tail 10, (by kernel_rfl)
    change wpList _ _ _ _ _ wd.drew
    generalize wd.drew = w5 at hGd hB1d kd ⊢
    have hcA : ¬ c = 0 := q1
    go_wp2_with (first
      | (refine wpList_copyB rfl (.tmp 31) (.tmp 40) 23 23 rfl 5 Try.underlying23 size5 (some ⟨G, 0, none⟩) (some ad) 0 0 0 c rfl rfl G 0 (bs (List.replicate 0 0)) 5 hGd (bs []) rfl (fun _ => rfl) Rd.nil (by simp) (bs_one _) ?_; intro w6 hB6 hk6 hs6; have hX6 := hB1d.keep hk6 (by simpa using hGX); have d1 : w6.cell? ⟨X, 1, none⟩ = some (.int .i64 0) := hX6.cell (i := 1) rfl; have f1 := hX6.free (i := 1))
      | fail)
    go_returns
    have hN : ((0 : Int)) = ((0 : Nat) : Int) := by omega
    rw [hN]
    exact o.got HC kd hk6 hB1d hB6.out HRL.out hGX hGw (by omega) (by omega)

theorem takeRaw_any (X : Nat) (a : Option Addr) (c : Nat) (d : List UInt8) (s : RS) (n : Int) (w : World) (h : RefAt w X a c d s) (hn : n ≤ 9223372036854775807) :
    Calls Try.prog 40 #[.pointer (some ⟨X, 0, none⟩), .int .i64 n] w (RefGives w X a c d (rRaw d s n)) := by
  by_cases hc : s.code = 0
  · by_cases h0 : n < 0
    · rw [rRaw, if_pos hc, if_pos h0]
      refine (takeRaw_arg X a c d s n w h hc h0).mono ?_
      rintro e w' ⟨rfl, e2, e3⟩
      exact RefGives.none e2 e3
    · obtain ⟨N, rfl⟩ : ∃ N : Nat, n = N := ⟨n.toNat, by omega⟩
      by_cases h2 : d.length < s.at' + N
      · rw [rRaw, if_pos hc, if_neg h0, if_pos (by simpa using h2)]
        refine (takeRaw_short X a c d s N w h hc (by omega) hn (by omega)).mono ?_
        rintro e w' ⟨rfl, e2, e3⟩
        exact RefGives.none e2 e3
      · rw [rRaw, if_pos hc, if_neg h0, if_neg (by simpa using h2)]
        exact takeRaw_some X a c d s N w h hc (by omega)
  · rw [rRaw, if_neg hc]
    refine (takeRaw_bad X a c d s n w h hc).mono ?_
    rintro e w' ⟨rfl, rfl⟩
    exact RefGives.none h (Keep.refl _ _)
end Go.Proofs.Ytkhplfgehcljmaa

/- A Reader's Fixed, Raw, Left, Err; Read. -/
import Derived.Test.YtpocegdlobnhaaaCF
set_option linter.unusedVariables false
set_option linter.unusedSimpArgs false
set_option maxRecDepth 100000
namespace Go.Proofs.Ytpocegdlobnhaaa.Cod
open Go.RowKit

def beVal (l : List UInt8) : Nat := l.foldl (fun v c => v * 256 + c.toNat) 0
theorem beVal_snoc (l : List UInt8) (c : UInt8) : beVal (l ++ [c]) = beVal l * 256 + c.toNat := by simp [beVal]
theorem beVal_lt (k : Nat) : ∀ l : List UInt8, l.length = k → beVal l < 256 ^ k := by
  induction k with
  | zero => intro l hl; rw [List.eq_nil_of_length_eq_zero hl]; simp [beVal]
  | succ k ih =>
    intro l hl
    have hne : l ≠ [] := by intro e; subst e; simp at hl
    rw [← List.dropLast_concat_getLast hne, beVal_snoc, Nat.pow_succ]
    have h1 := ih l.dropLast (by rw [List.length_dropLast]; omega)
    have h2 := (l.getLast hne).toNat_lt
    have h3 : (beVal l.dropLast + 1) * 256 ≤ 256 ^ k * 256 := Nat.mul_le_mul_right _ h1
    omega
theorem or_byte (v b : Nat) (hv : v < 16777216) (hb : b < 256) : bits .or .i64 ((v : Int) * 256) (b : Int) = ((v * 256 + b : Nat) : Int) := by
  have h := i64_or_nat (v * 256) b (by omega) (by omega)
  have := Nat.two_pow_add_eq_or_of_lt (i := 8) (b := b) (by omega) v
  rw [Nat.mul_comm v, show (256 : Nat) = 2 ^ 8 from rfl, ← this] at h
  rw [show ((v * 256 + b : Nat) : Int) = ((2 ^ 8 * v + b : Nat) : Int) by omega, ← h]
  congr 1; omega
/-- Fixed, by the document. -/
def rFixed (d : List UInt8) (s : RS) (k : Int) : Nat × RS :=
  if s.code = 0 then (if k < 1 ∨ 4 < k then (0, s.spoil 1) else if d.length < s.at' + k.toNat then (0, s.spoil 10) else (beVal ((d.drop s.at').take k.toNat), ⟨0, s.place, s.at' + k.toNat⟩)) else (0, s)
/-- Raw, by the document. -/
def rRaw (d : List UInt8) (s : RS) (n : Int) : List UInt8 × RS :=
  if s.code = 0 then (if n < 0 then ([], s.spoil 1) else if d.length < s.at' + n.toNat then ([], s.spoil 10) else ((d.drop s.at').take n.toNat, ⟨0, s.place, s.at' + n.toNat⟩)) else ([], s)
def rLeft (d : List UInt8) (s : RS) : Nat := if s.code = 0 then d.length - s.at' else 0

/-- The world behind 'r.spoil(c, r.at)'. -/
theorem Opened.spoilt {w w2 w3 : World} {P : Nat} {d : List UInt8} {s : RS} {va : Option Addr} {vc A L : Nat} {c : Int} (o : Opened w P d s va vc A L) (hc : Hid (s.code = 0)) (k2 : Keep [P] w w2) (k3 : Keep [P] w2 w3)
    (hB : Blk w3 P #[.int .i64 (fateC s.code c), .int .i64 (fateA s.code s.place A), .slice va L vc, .int .i64 A] 174) : RdCells w3 P d (s.spoil c) va vc ∧ Keep [P] w w3 := by
  have k : Keep [P] w w3 := k2.trans k3 (by simp)
  refine ⟨o.back.out _ (s.spoil c) k ?_ (by rw [RS.spoil_ok hc.out]; simp only; rw [o.hA.out]; exact o.h1), k⟩
  rw [hc.out] at hB
  rw [RS.spoil_ok hc.out, o.hA.out]
  exact hB

theorem rfixed_bad (P : Nat) (S : List Nat) (d : List UInt8) (s : RS) (k : Int) (w : World) (h : RdAt w P S d s) (hc : s.code ≠ 0) :
    Calls Try.prog 86 #[.pointer (some ⟨P, 0, none⟩), .int .i64 k] w fun e w' => e = .returned (.int .i64 0) ∧ w' = w := by
  have h1 : (s.code == 0) = false := by simpa using hc
  go_enter Try.func86, Try.ntmps86
  go_wp2_with (first | (go_at_call 108; refine (goes_any P S d s _ h).mono ?_; rintro e w1 ⟨rfl, rfl⟩) | fail)
  go_returns
  exact ⟨rfl, rfl⟩
theorem rraw_bad (P : Nat) (S : List Nat) (d : List UInt8) (s : RS) (k : Int) (w : World) (h : RdAt w P S d s) (hc : s.code ≠ 0) :
    Calls Try.prog 112 #[.pointer (some ⟨P, 0, none⟩), .int .i64 k] w fun e w' => e = .returned (.slice none 0 0) ∧ w' = w := by
  have h1 : (s.code == 0) = false := by simpa using hc
  go_enter Try.func112, Try.ntmps112
  go_wp2_with (first | (go_at_call 108; refine (goes_any P S d s _ h).mono ?_; rintro e w1 ⟨rfl, rfl⟩) | fail)
  go_returns
  exact ⟨rfl, rfl⟩

set_option maxHeartbeats 2000000 in
set_option maxRecDepth 100000 in
theorem rfixed_arg (P : Nat) (d : List UInt8) (s : RS) (va : Option Addr) (vc : Nat) (k : Int) (w : World) (h : RdCells w P d s va vc) (hc : s.code = 0) (hk : k < 1 ∨ 4 < k) :
    Calls Try.prog 86 #[.pointer (some ⟨P, 0, none⟩), .int .i64 k] w fun e w' => e = .returned (.int .i64 0) ∧ RdCells w' P d (s.spoil 1) va vc ∧ Keep [P] w w' := by
  obtain ⟨A, L, o⟩ := h.opened
  have h0 := goes_any P _ d s w ⟨va, vc, h, rfl⟩
  rw [hc] at h0
  have HC := Lib.hid hc
  have c3 : w.cell? ⟨P, 3, none⟩ = some (.int .i64 A) := o.blk.cell (i := 3) rfl
  clear hc
  have ht : decide (k < 1) = true ∨ (decide (k < 1) = false ∧ decide (4 < k) = true) := by
    rcases hk with hk | hk
    · exact Or.inl (by simpa using hk)
    · by_cases h1 : k < 1
      · exact Or.inl (by simpa using h1)
      · exact Or.inr ⟨by simpa using h1, by simpa using hk⟩
  clear hk
  rcases ht with t1 | ⟨t1, t2⟩
  all_goals
    go_enter Try.func86, Try.ntmps86
    go_upto_region 4 with (first | (go_at_call 108; refine h0.mono ?_; rintro e w1 ⟨rfl, hw⟩; have hw' := hw.symm; subst hw') | fail)
    go_still_tail 7, (by kernel_rfl)
    change wpList _ _ _ _ _ w.drew
    have hBe : Blk w.drew P _ 174 := o.blk.drew
    have ke : Keep [P] w w.drew := (Keep.refl _ _).drew
    generalize w.drew = w2 at hBe ke ⊢
    go_wp2_with (first
      | (go_at_call 109; refine (spoil_any P s.code s.place 1 A [.slice va L vc, .int .i64 A] 174 _ hBe).mono ?_; rintro e w3 ⟨rfl, hB1, hk1, hs1⟩)
      | fail)
    go_returns
    exact ⟨rfl, o.spoilt HC ke hk1 hB1⟩

set_option maxHeartbeats 2000000 in
set_option maxRecDepth 100000 in
theorem rraw_arg (P : Nat) (d : List UInt8) (s : RS) (va : Option Addr) (vc : Nat) (k : Int) (w : World) (h : RdCells w P d s va vc) (hc : s.code = 0) (hk : k < 0) :
    Calls Try.prog 112 #[.pointer (some ⟨P, 0, none⟩), .int .i64 k] w fun e w' => e = .returned (.slice none 0 0) ∧ RdCells w' P d (s.spoil 1) va vc ∧ Keep [P] w w' := by
  obtain ⟨A, L, o⟩ := h.opened
  have h0 := goes_any P _ d s w ⟨va, vc, h, rfl⟩
  rw [hc] at h0
  have HC := Lib.hid hc
  have c3 : w.cell? ⟨P, 3, none⟩ = some (.int .i64 A) := o.blk.cell (i := 3) rfl
  clear hc
  have t1 : decide (k < 0) = true := by simpa using hk
  clear hk
  go_enter Try.func112, Try.ntmps112
  go_upto_region 4 with (first | (go_at_call 108; refine h0.mono ?_; rintro e w1 ⟨rfl, hw⟩; have hw' := hw.symm; subst hw') | fail)
  go_still_tail 7, (by kernel_rfl)
  change wpList _ _ _ _ _ w.drew
  have hBe : Blk w.drew P _ 174 := o.blk.drew
  have ke : Keep [P] w w.drew := (Keep.refl _ _).drew
  generalize w.drew = w2 at hBe ke ⊢
  go_wp2_with (first
    | (go_at_call 109; refine (spoil_any P s.code s.place 1 A [.slice va L vc, .int .i64 A] 174 _ hBe).mono ?_; rintro e w3 ⟨rfl, hB1, hk1, hs1⟩)
    | fail)
  go_returns
  exact ⟨rfl, o.spoilt HC ke hk1 hB1⟩

/-- A row that was read, in new memory. -/
def Gives (w : World) (P : Nat) (S : List Nat) (d : List UInt8) (res : List UInt8 × RS) (e : Ending) (w' : World) : Prop :=
  ∃ a c, e = .returned (.slice a res.1.length c) ∧ Sl w' 5 1 (.slice a res.1.length c) res.1.length (bs res.1) ∧ Fr w [] (blks (.slice a res.1.length c)) ∧ RdAt w' P S d res.2 ∧ Keep [P] w w'
theorem Gives.none {w w' : World} {P : Nat} {S : List Nat} {d : List UInt8} {s : RS} (h : RdAt w' P S d s) (k : Keep [P] w w') : Gives w P S d ([], s) (.returned (.slice none 0 0)) w' :=
  ⟨Option.none, 0, rfl, Sl.nil _ _ _, by intro b hb; simp [blks, Value.ownBlock] at hb, h, k⟩

set_option maxHeartbeats 2000000 in
theorem rraw_short (P : Nat) (d : List UInt8) (s : RS) (va : Option Addr) (vc : Nat) (n : Int) (w : World) (h : RdCells w P d s va vc) (hc : s.code = 0) (hn : 0 ≤ n) (hn1 : n ≤ 9223372036854775807) (hs : (d.length : Int) < s.at' + n) :
    Calls Try.prog 112 #[.pointer (some ⟨P, 0, none⟩), .int .i64 n] w (Gives w P (P :: blks (.slice va d.length vc)) d ([], s.spoil 10)) := by
  have h0 := goes_any P _ d s w ⟨va, vc, h, rfl⟩
  rw [hc] at h0
  have HT := Lib.hid (take_short P d s va vc n w h hs hn1)
  clear hc hs
  go_enter Try.func112, Try.ntmps112
  go_wp2_with (first
    | (go_at_call 108; refine h0.mono ?_; rintro e w1 ⟨rfl, hw⟩; have hw' := hw.symm; subst hw')
    | (go_at_call 110; refine HT.out.mono ?_; rintro e w1 ⟨rfl, h1, k1⟩)
    | (at_builtin; go_must (refine wpList_appendN rfl (.const (.slice none 0 0)) (.tmp 20) 22 rfl 5 (.int .u8 0) 1 1 Try.underlying22 info5 rfl (by omega) (.slice none 0 0) 0 [] rfl (Sl.nil _ _ _) none 0 0 [] rfl rfl (fun _ => rfl) Rd.nil (by simp) (by simp only [maxLen]; omega) (by omega) ?_; intro a1 c1 w2 hs1 hk1 hf1))
    | fail)
  go_returns
  exact ⟨a1, c1, rfl, hs1, hf1.le k1.size, ⟨va, vc, h1.keep hk1 (by simp [blks, Value.ownBlock]), rfl⟩, k1.trans' hk1⟩

set_option maxHeartbeats 2000000 in
theorem rraw_some (P : Nat) (d : List UInt8) (s : RS) (va : Option Addr) (vc n : Nat) (w : World) (h : RdCells w P d s va vc) (hc : s.code = 0) (hn : s.at' + n ≤ d.length) :
    Calls Try.prog 112 #[.pointer (some ⟨P, 0, none⟩), .int .i64 n] w (Gives w P (P :: blks (.slice va d.length vc)) d ((d.drop s.at').take n, ⟨0, s.place, s.at' + n⟩)) := by
  have h0 := goes_any P _ d s w ⟨va, vc, h, rfl⟩
  rw [hc] at h0
  have HT := take_some P d s va vc n w h hn
  rw [hc] at HT
  have HT := Lib.hid HT
  have hmx := h.max
  obtain ⟨R, hR⟩ : ∃ R, (d.drop s.at').take n = R := ⟨_, rfl⟩
  have hRl : R.length = n := by rw [← hR, List.length_take, List.length_drop]; omega
  rw [hR] at HT ⊢
  have HRL := Lib.hid hRl
  have hn2 : n ≤ 140737488355328 := by omega
  clear hc hn hR hRl
  go_enter Try.func112, Try.ntmps112
  go_wp2_with (first
    | (go_at_call 108; refine h0.mono ?_; rintro e w1 ⟨rfl, hw⟩; have hw' := hw.symm; subst hw')
    | (go_at_call 110; refine HT.out.mono ?_; rintro e w1 ⟨a, c, rfl, g1, g2, h1, k1⟩)
    | (at_builtin; go_must (refine wpList_appendN rfl (.const (.slice none 0 0)) (.tmp 20) 22 rfl 5 (.int .u8 0) 1 1 Try.underlying22 info5 rfl (by omega) (.slice none 0 0) 0 [] rfl (Sl.nil _ _ _) a n c (bs R) rfl (by rw [bs_length, HRL.out, Nat.mul_one]) g1 g2 (bs_one R) (by simp only [maxLen]; omega) (by omega) ?_; intro a1 c1 w2 hs1 hk1 hf1))
    | fail)
  go_returns
  rw [Nat.zero_add] at hs1 hf1
  refine ⟨a1, c1, by simp only; rw [HRL.out]; rfl, by simp only; rw [HRL.out]; exact hs1, by simp only; rw [HRL.out]; exact hf1.le k1.size, ⟨va, vc, h1.keep hk1 (by simp [blks, Value.ownBlock]), rfl⟩, k1.trans' hk1⟩

theorem rraw_any (P : Nat) (S : List Nat) (d : List UInt8) (s : RS) (n : Int) (w : World) (h : RdAt w P S d s) (hn : n ≤ 9223372036854775807) :
    Calls Try.prog 112 #[.pointer (some ⟨P, 0, none⟩), .int .i64 n] w (Gives w P S d (rRaw d s n)) := by
  by_cases hc : s.code = 0
  · obtain ⟨va, vc, h1, rfl⟩ := h
    by_cases h0 : n < 0
    · rw [rRaw, if_pos hc, if_pos h0]
      refine (rraw_arg P d s va vc n w h1 hc h0).mono ?_
      rintro e w' ⟨rfl, e2, e3⟩
      exact Gives.none ⟨va, vc, e2, rfl⟩ e3
    · obtain ⟨N, rfl⟩ : ∃ N : Nat, n = N := ⟨n.toNat, by omega⟩
      by_cases h2 : d.length < s.at' + N
      · rw [rRaw, if_pos hc, if_neg h0, if_pos (by simpa using h2)]
        exact rraw_short P d s va vc N w h1 hc (by omega) hn (by omega)
      · rw [rRaw, if_pos hc, if_neg h0, if_neg (by simpa using h2)]
        exact rraw_some P d s va vc N w h1 hc (by omega)
  · rw [rRaw, if_neg hc]
    refine (rraw_bad P S d s n w h hc).mono ?_
    rintro e w' ⟨rfl, rfl⟩
    exact Gives.none h (Keep.refl _ _)

set_option maxHeartbeats 2000000 in
set_option maxRecDepth 100000 in
theorem rfixed_short (P : Nat) (d : List UInt8) (s : RS) (va : Option Addr) (vc k : Nat) (w : World) (h : RdCells w P d s va vc) (hc : s.code = 0) (hk : 1 ≤ k ∧ k ≤ 4) (hs : d.length < s.at' + k) :
    Calls Try.prog 86 #[.pointer (some ⟨P, 0, none⟩), .int .i64 k] w fun e w' => e = .returned (.int .i64 0) ∧ RdCells w' P d (s.spoil 10) va vc ∧ Keep [P] w w' := by
  have h0 := goes_any P _ d s w ⟨va, vc, h, rfl⟩
  rw [hc] at h0
  have HT := Lib.hid (take_short P d s va vc k w h (by omega) (by omega))
  have t1 : decide ((k : Int) < 1) = false := by simp; omega
  have t2 : decide (4 < (k : Int)) = false := by simp; omega
  clear hc hs
  go_enter Try.func86, Try.ntmps86
  go_wp2_with (first
    | (go_at_call 108; refine h0.mono ?_; rintro e w1 ⟨rfl, hw⟩; have hw' := hw.symm; subst hw')
    | (go_at_call 110; refine HT.out.mono ?_; rintro e w1 ⟨rfl, h1, k1⟩)
    | fail)
  go_loopw [5, 29] (fun v5 v29 wr => v5 = .int .i64 0 ∧ v29 = .int .i64 0 ∧ wr = w1) (fun _ _ _ => 0)
  case atStart => exact ⟨rfl, rfl, rfl⟩
  case round =>
    obtain ⟨rfl, rfl, rfl⟩ := hrel
    go_wp2_with fail
    go_returns
    exact ⟨rfl, h1, k1⟩

set_option maxHeartbeats 2000000 in
set_option maxRecDepth 100000 in
theorem rfixed_some (P : Nat) (d : List UInt8) (s : RS) (va : Option Addr) (vc k : Nat) (w : World) (h : RdCells w P d s va vc) (hc : s.code = 0) (hk : 1 ≤ k ∧ k ≤ 4) (hs : s.at' + k ≤ d.length) :
    Calls Try.prog 86 #[.pointer (some ⟨P, 0, none⟩), .int .i64 k] w fun e w' => e = .returned (.int .i64 (beVal ((d.drop s.at').take k))) ∧ RdCells w' P d ⟨0, s.place, s.at' + k⟩ va vc ∧ Keep [P] w w' := by
  have h0 := goes_any P _ d s w ⟨va, vc, h, rfl⟩
  rw [hc] at h0
  have HT := take_some P d s va vc k w h hs
  rw [hc] at HT
  obtain ⟨R, hR⟩ : ∃ R, (d.drop s.at').take k = R := ⟨_, rfl⟩
  have hRl : R.length = k := by rw [← hR, List.length_take, List.length_drop]; omega
  rw [hR] at HT ⊢
  have HRL := Lib.hid hRl
  have HT := Lib.hid HT
  have t1 : decide ((k : Int) < 1) = false := by simp; omega
  have t2 : decide (4 < (k : Int)) = false := by simp; omega
  clear hc hs hR hRl
  go_enter Try.func86, Try.ntmps86
  go_wp2_with (first
    | (go_at_call 108; refine h0.mono ?_; rintro e w1 ⟨rfl, hw⟩; have hw' := hw.symm; subst hw')
    | (go_at_call 110; refine HT.out.mono ?_; rintro e w1 ⟨a, c, rfl, g1, g2, h1, k1⟩)
    | fail)
  go_loopw [5, 29] (fun v5 v29 wr => ∃ i, i ≤ k ∧ v29 = .int .i64 (i : Nat) ∧ v5 = .int .i64 (beVal (R.take i)) ∧ wr = w1) (fun _ v29 _ => k - (intOf v29).toNat)
  case atStart => exact ⟨0, by omega, rfl, rfl, rfl⟩
  case round =>
    obtain ⟨i, hi, rfl, rfl, rfl⟩ := hrel
    by_cases hlt : i < k
    · obtain ⟨x, hx⟩ : ∃ x, R[i]? = some x := ⟨_, List.getElem?_eq_getElem (by have := HRL.out; omega)⟩
      obtain ⟨b, off, rfl, hcell⟩ := g2.byte (k := i) (by have := HRL.out; omega)
      have hxx : R[i]'(by have := HRL.out; omega) = x := by
        rw [List.getElem?_eq_getElem (by have := HRL.out; omega)] at hx; exact Option.some.inj hx
      rw [hxx] at hcell
      have hnext : beVal (R.take (i + 1)) = beVal (R.take i) * 256 + x.toNat := by
        rw [List.take_add_one, hx]; exact beVal_snoc _ _
      have hb := beVal_lt i (R.take i) (by rw [List.length_take, HRL.out]; omega)
      have hb3 : (256 : Nat) ^ i ≤ 256 ^ 3 := Nat.pow_le_pow_right (by omega) (by omega)
      obtain ⟨B, hB⟩ : ∃ B, beVal (R.take i) = B := ⟨_, rfl⟩
      rw [hB] at hb hnext ⊢
      have hB24 : B < 16777216 := by omega
      have HX := Lib.hid hnext
      have hx8 : x.toNat < 256 := x.toNat_lt
      have hor := or_byte B x.toNat hB24 hx8
      have i1 : (i : Int) < k := by omega
      clear hx hxx hnext hB hb hb3
      go_wp2_with fail
      refine ⟨⟨i + 1, by omega, by go_num, by rw [HX.out]; push_cast; rfl, trivial⟩, by simp [intOf]; omega⟩
    · obtain rfl : i = k := by omega
      rw [List.take_of_length_le (by rw [HRL.out]; exact Nat.le_refl _)]
      go_wp2_with fail
      go_returns
      exact ⟨rfl, h1, k1⟩

theorem rfixed_any (P : Nat) (S : List Nat) (d : List UInt8) (s : RS) (k : Int) (w : World) (h : RdAt w P S d s) :
    Calls Try.prog 86 #[.pointer (some ⟨P, 0, none⟩), .int .i64 k] w fun e w' => e = .returned (.int .i64 (rFixed d s k).1) ∧ RdAt w' P S d (rFixed d s k).2 ∧ Keep [P] w w' := by
  by_cases hc : s.code = 0
  · obtain ⟨va, vc, h1, rfl⟩ := h
    by_cases h0 : k < 1 ∨ 4 < k
    · rw [rFixed, if_pos hc, if_pos h0]
      refine (rfixed_arg P d s va vc k w h1 hc h0).mono ?_
      rintro e w' ⟨rfl, e2, e3⟩
      exact ⟨rfl, ⟨va, vc, e2, rfl⟩, e3⟩
    · obtain ⟨N, rfl⟩ : ∃ N : Nat, k = N := ⟨k.toNat, by omega⟩
      by_cases h2 : d.length < s.at' + N
      · rw [rFixed, if_pos hc, if_neg h0, if_pos (by simpa using h2)]
        refine (rfixed_short P d s va vc N w h1 hc (by omega) h2).mono ?_
        rintro e w' ⟨rfl, e2, e3⟩
        exact ⟨rfl, ⟨va, vc, e2, rfl⟩, e3⟩
      · rw [rFixed, if_pos hc, if_neg h0, if_neg (by simpa using h2)]
        refine (rfixed_some P d s va vc N w h1 hc (by omega) (by omega)).mono ?_
        rintro e w' ⟨rfl, e2, e3⟩
        exact ⟨rfl, ⟨va, vc, e2, rfl⟩, e3⟩
  · rw [rFixed, if_neg hc]
    refine (rfixed_bad P S d s k w h hc).mono ?_
    rintro e w' ⟨rfl, rfl⟩
    exact ⟨rfl, h, Keep.refl _ _⟩

theorem rleft_any (P : Nat) (S : List Nat) (d : List UInt8) (s : RS) (w : World) (h : RdAt w P S d s) :
    Calls Try.prog 90 #[.pointer (some ⟨P, 0, none⟩)] w fun e w' => e = .returned (.int .i64 (rLeft d s)) ∧ RdAt w' P S d s ∧ Keep [] w w' := by
  have h0 := goes_any P S d s w h
  by_cases hc : s.code = 0
  · obtain ⟨va, vc, h1, rfl⟩ := h
    obtain ⟨A, L, o⟩ := h1.opened
    have hr : rLeft d s = L - A := by rw [rLeft, if_pos hc, o.hA.out, o.hL.out]
    rw [hc] at h0
    have c2 : w.cell? ⟨P, 2, none⟩ = some (.slice va L vc) := o.blk.cell (i := 2) rfl
    have c3 : w.cell? ⟨P, 3, none⟩ = some (.int .i64 A) := o.blk.cell (i := 3) rfl
    have g1 := o.h1
    have g2 := o.h2
    have e1 : IntKind.i64.wrap ((L : Int) - A) = L - A := IntWalk.i64_in _ (by omega)
    have e2 : ((L - A : Nat) : Int) = (L : Int) - A := by omega
    have HR := Lib.hid hr
    have HE := Lib.hid e2
    clear hr hc e2
    go_enter Try.func90, Try.ntmps90
    go_upto_region 3 with (first | (go_at_call 108; refine h0.mono ?_; rintro e w1 ⟨rfl, hw⟩; have hw' := hw.symm; subst hw') | fail)
    go_quiet (fail)
    go_wp2_with fail
    go_returns
    refine ⟨by rw [HR.out, HE.out]; rfl, RdAt.keep ⟨va, vc, h1, rfl⟩ ((Keep.refl [] _).drewN) (by simp), (Keep.refl _ _).drewN⟩
  · have h1 : (s.code == 0) = false := by simpa using hc
    rw [rLeft, if_neg hc]
    rw [h1] at h0
    go_enter Try.func90, Try.ntmps90
    go_wp2_with (first | (go_at_call 108; refine h0.mono ?_; rintro e w1 ⟨rfl, rfl⟩) | fail)
    go_returns
    exact ⟨rfl, h, Keep.refl _ _⟩

theorem rerr_any (P : Nat) (S : List Nat) (d : List UInt8) (s : RS) (w : World) (h : RdAt w P S d s) :
    Calls Try.prog 107 #[.pointer (some ⟨P, 0, none⟩)] w fun e w' => e = .returned (.tuple #[.int .i64 s.code, .int .i64 s.place]) ∧ RdAt w' P S d s ∧ Keep [] w w' := by
  obtain ⟨va, vc, h1, rfl⟩ := h
  have c0 : w.cell? ⟨P, 0, none⟩ = some (.int .i64 s.code) := h1.blk.cell (i := 0) rfl
  have c1 : w.cell? ⟨P, 1, none⟩ = some (.int .i64 s.place) := h1.blk.cell (i := 1) rfl
  go_enter Try.func107, Try.ntmps107
  go_wp2_with fail
  go_quiet (fail)
  go_wp2_with fail
  go_returns
  exact ⟨rfl, RdAt.keep ⟨va, vc, h1, rfl⟩ ((Keep.refl [] _).drewN) (by simp), (Keep.refl _ _).drewN⟩

theorem rnumber_nil (w : World) : Calls Try.prog 87 #[.pointer none] w fun e w' => e = .returned (.int .i64 0) ∧ w' = w := by
  go_enter Try.func87, Try.ntmps87
  go_wp2_with (first | (go_at_call 108; refine (goes_nil _).mono ?_; rintro e w1 ⟨rfl, rfl⟩) | fail)
  go_returns
  exact ⟨rfl, rfl⟩
theorem rfixed_nil (v : Value) (w : World) : Calls Try.prog 86 #[.pointer none, v] w fun e w' => e = .returned (.int .i64 0) ∧ w' = w := by
  go_enter Try.func86, Try.ntmps86
  go_wp2_with (first | (go_at_call 108; refine (goes_nil _).mono ?_; rintro e w1 ⟨rfl, rfl⟩) | fail)
  go_returns
  exact ⟨rfl, rfl⟩
theorem rraw_nil (v : Value) (w : World) : Calls Try.prog 112 #[.pointer none, v] w fun e w' => e = .returned (.slice none 0 0) ∧ w' = w := by
  go_enter Try.func112, Try.ntmps112
  go_wp2_with (first | (go_at_call 108; refine (goes_nil _).mono ?_; rintro e w1 ⟨rfl, rfl⟩) | fail)
  go_returns
  exact ⟨rfl, rfl⟩
theorem rtext_nil (v : Value) (w : World) : Calls Try.prog 113 #[.pointer none, v] w fun e w' => e = .returned (.slice none 0 0) ∧ w' = w := by
  go_enter Try.func113, Try.ntmps113
  go_wp2_with (first | (go_at_call 108; refine (goes_nil _).mono ?_; rintro e w1 ⟨rfl, rfl⟩) | fail)
  go_returns
  exact ⟨rfl, rfl⟩
theorem rleft_nil (w : World) : Calls Try.prog 90 #[.pointer none] w fun e w' => e = .returned (.int .i64 0) ∧ w' = w := by
  go_enter Try.func90, Try.ntmps90
  go_wp2_with (first | (go_at_call 108; refine (goes_nil _).mono ?_; rintro e w1 ⟨rfl, rfl⟩) | fail)
  go_returns
  exact ⟨rfl, rfl⟩
theorem rerr_nil (w : World) : Calls Try.prog 107 #[.pointer none] w fun e w' => e = .returned (.tuple #[.int .i64 0, .int .i64 0]) ∧ w' = w := by
  go_enter Try.func107, Try.ntmps107
  go_wp2_with fail
  go_returns
  exact ⟨rfl, rfl⟩

/-- Read: a new Reader. -/
theorem read_any (a : Option Addr) (n c : Nat) (xs : List UInt8) (w : World) (hl : xs.length = n) (hc : a = none → c = 0) (hrd : Rd w a (bs xs)) (hn : n ≤ 140737488355328) :
    Calls Try.prog 106 #[.slice a n c] w fun e w' => ∃ P S, e = .returned (.pointer (some ⟨P, 0, none⟩)) ∧ RdAt w' P S xs ⟨0, 0, 0⟩ ∧ Fr w [] S ∧ Keep [] w w' := by
  have HL := Lib.hid hl
  clear hl
  go_enter Try.func106, Try.ntmps106
  go_wp2_with (first
    | (at_builtin; go_must (refine wpList_appendN rfl (.const (.slice none 0 0)) (.tmp 3) 22 rfl 5 (.int .u8 0) 1 1 Try.underlying22 info5 rfl (by omega) (.slice none 0 0) 0 [] rfl (Sl.nil _ _ _) a n c (bs xs) rfl (by rw [bs_length, HL.out, Nat.mul_one]) hc hrd (bs_one xs) (by simp only [maxLen]; omega) (by omega) ?_; intro a1 c1 w2 hs1 hk1 hf1))
    | fail)
  go_returns
  rw [Nat.zero_add, List.nil_append] at hs1
  rw [Nat.zero_add] at hf1
  have hl := HL.out
  have kn := (Keep.refl [] w2).alloc (.cells #[Value.int .i64 0, Value.int .i64 0, Value.slice a1 n c1, Value.int .i64 0] 174)
  have hB := Blk.new w2 #[Value.int .i64 0, Value.int .i64 0, Value.slice a1 n c1, Value.int .i64 0] 174
  subst hl
  refine ⟨w2.heap.size, _, rfl, ⟨a1, c1, ⟨hB, hs1.keep kn (by simp), by simp, hn, fun h => ?_⟩, rfl⟩, ?_, hk1.trans' kn⟩
  · have := hs1.lt _ h; omega
  · intro b hb
    rcases List.mem_cons.1 hb with rfl | hb
    · exact Or.inr hk1.size
    · exact hf1 b hb
end Go.Proofs.Ytpocegdlobnhaaa.Cod

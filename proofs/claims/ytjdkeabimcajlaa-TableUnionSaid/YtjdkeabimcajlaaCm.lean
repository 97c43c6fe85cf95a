/- bytes.Compare; two ids compared. -/
import Derived.Test.YtjdkeabimcajlaaG
import Derived.Lib.Bytealg
set_option linter.unusedVariables false
set_option linter.unusedSimpArgs false
namespace Go.Proofs.Ytjdkeabimcajlaa
open Go.RowKit

theorem run_loadBytes {P : Program} {w : World} : ∀ (xs : List UInt8) (b off : Nat) (acc : ByteArray), (∀ k v, (bs xs)[k]? = some v → w.cell? ⟨b, off + k, none⟩ = some v) →
    (Extern.Bytes.loadBytes ⟨b, off, none⟩ xs.length acc).run P w = .ok ⟨acc.data ++ xs.toArray⟩ w
  | [], b, off, acc, h => by simp [Extern.Bytes.loadBytes]
  | x :: xs, b, off, acc, h => by
    have h0 := h 0 (B8 x) rfl
    have ih := run_loadBytes (P := P) (w := w) xs b (off + 1) (acc.push x) (fun k v hv => by
      have := h (k + 1) v (by simpa [bs] using hv)
      rwa [show off + 1 + k = off + (k + 1) by omega])
    have hx : (((x.toNat : Nat) : Int)).toNat.toUInt8 = x := by simp
    show (Extern.Bytes.loadBytes ⟨b, off, none⟩ (xs.length + 1) acc).run P w = _
    unfold Extern.Bytes.loadBytes
    rw [Nat.add_zero] at h0
    simp only [Sem.run_bind, run_load, h0, Result.andThen, B8, hx, add_off]
    rw [ih]
    simp
theorem run_bytesOf {P : Program} {w : World} {a : Option Addr} {n c : Nat} {xs : List UInt8} (hl : xs.length = n) (hrd : Rd w a (bs xs)) : (Extern.Bytes.bytesOf (.slice a n c)).run P w = .ok ⟨xs.toArray⟩ w := by
  rcases hrd with e | ⟨b, off, rfl, hc⟩
  · have : xs = [] := by simpa [bs] using e
    subst this
    obtain rfl : n = 0 := by simpa using hl.symm
    cases a <;> simp [Extern.Bytes.bytesOf, Extern.Bytes.loadBytes] <;> rfl
  · subst hl
    have := run_loadBytes (P := P) xs b off .empty hc
    simp only [Extern.Bytes.bytesOf]
    rw [this]; simp
theorem run_compare {P : Program} {w : World} {a b : Option Addr} {n c m d : Nat} {xs ys : List UInt8} (hx : xs.length = n) (rx : Rd w a (bs xs)) (hy : ys.length = m) (ry : Rd w b (bs ys)) :
    (Extern.BytealgCompare.compare #[.slice a n c, .slice b m d]).run P w = .ok (.int .i64 (Lib.compareBytes xs ys)) w := by
  change Sem.run P (do pure (goInt (Extern.BytealgCompare.cmp (← Extern.Bytes.bytesOf (.slice a n c)) (← Extern.Bytes.bytesOf (.slice b m d))))) w = _
  simp only [Sem.run_bind, run_bytesOf hx rx, run_bytesOf hy ry, Result.andThen, Sem.run_pure, Lib.cmp_eq, goInt]

set_option maxRecDepth 100000 in
theorem bytesCompare_any (a b : Option Addr) (n c m d : Nat) (xs ys : List UInt8) (w : World) (hx : xs.length = n) (rx : Rd w a (bs xs)) (hy : ys.length = m) (ry : Rd w b (bs ys)) :
    Calls Try.prog 58 #[.slice a n c, .slice b m d] w fun e w' => e = .returned (.int .i64 (Lib.compareBytes xs ys)) ∧ w' = w := by
  have HR := Lib.hid (run_compare (P := Try.prog) (c := c) (d := d) hx rx hy ry)
  clear hx hy rx ry
  go_enter Try.func58, Try.ntmps58
  go_wp2_with fail
  rw [run_callFunc_extern Try.func69 (by kernel_rfl) (by kernel_rfl) (by kernel_rfl) (e := Extern.BytealgCompare.compare) (by kernel_rfl), HR.out]
  simp only [Result.andThen]
  rw [Oper.upon_value]
  go_wp2_with fail
  go_returns
  exact ⟨rfl, rfl⟩


theorem cmp_step {xs ys : List UInt8} {i : Nat} {x y : UInt8} (hx : xs[i]? = some x) (hy : ys[i]? = some y) : Lib.compareBytes (xs.drop i) (ys.drop i) = if x < y then -1 else if y < x then 1 else Lib.compareBytes (xs.drop (i + 1)) (ys.drop (i + 1)) := by
  obtain ⟨h1, e1⟩ := List.getElem?_eq_some_iff.1 hx
  obtain ⟨h2, e2⟩ := List.getElem?_eq_some_iff.1 hy
  rw [List.drop_eq_getElem_cons h1, List.drop_eq_getElem_cons h2, e1, e2]
  rfl
theorem cmp_range (xs : List UInt8) : ∀ ys, Lib.compareBytes xs ys = -1 ∨ Lib.compareBytes xs ys = 0 ∨ Lib.compareBytes xs ys = 1 := by
  induction xs with
  | nil => intro ys; cases ys <;> simp [Lib.compareBytes]
  | cons x xs ih =>
    intro ys
    cases ys with
    | nil => simp [Lib.compareBytes]
    | cons y ys =>
      unfold Lib.compareBytes
      by_cases h1 : x < y
      · rw [if_pos h1]; exact Or.inl rfl
      · rw [if_neg h1]
        by_cases h2 : y < x
        · rw [if_pos h2]; exact Or.inr (Or.inr rfl)
        · rw [if_neg h2]; exact ih ys

set_option maxHeartbeats 2000000 in
set_option maxRecDepth 100000 in
theorem below_any (xs ys : List UInt8) (w : World) (hx : xs.length = 32) (hy : ys.length = 32) :
    Calls Try.prog 43 #[.agg (bs xs).toArray, .agg (bs ys).toArray] w fun e w' => e = .returned (.bool (decide (Lib.compareBytes xs ys < 0))) ∧ Keep [] w w' := by
  obtain ⟨W, hW⟩ : ∃ W, (w.alloc (.cells (bs xs).toArray 37)).alloc (.cells (bs ys).toArray 37) = W := ⟨_, rfl⟩
  have BX : Blk W w.heap.size (bs xs).toArray 37 := by rw [← hW]; exact (Blk.new w _ 37).alloc _
  have BY : Blk W (w.heap.size + 1) (bs ys).toArray 37 := by rw [← hW]; exact Blk.new' _ _ 37 (by simp)
  have kW : Keep [] w W := by rw [← hW]; exact ((Keep.refl [] w).alloc _).alloc _
  have hc : ∀ W', Keep [] W W' → Calls Try.prog 58 #[.slice (some ⟨w.heap.size, 0, none⟩) 32 32, .slice (some ⟨w.heap.size + 1, 0, none⟩) 32 32] W' fun e w' => e = .returned (.int .i64 (Lib.compareBytes xs ys)) ∧ w' = W' := fun W' k =>
    bytesCompare_any _ _ 32 32 32 32 xs ys W' hx (Rd.of_blk (BX.keep k (by simp)) 0 (fun j v hv => by rw [Nat.zero_add]; exact hv)) hy (Rd.of_blk (BY.keep k (by simp)) 0 (fun j v hv => by rw [Nat.zero_add]; exact hv))
  have HC := Lib.hid hc
  obtain ⟨C, hC⟩ : ∃ C, Lib.compareBytes xs ys = C := ⟨_, rfl⟩
  rw [hC] at HC
  have HCC := Lib.hid hC
  have HW := Lib.hid hW
  clear hc BX BY hx hy hC hW
  go_enter Try.func43, Try.ntmps43
  go_upto_region 1 with fail
  rw [HW.out]
  generalize w.heap.size = p at HC ⊢
  go_quiet ((go_at_call 58; exact Calls.quiet_of_same (HC.out _ ((Keep.refl _ _).drewN))))
  go_wp2_with fail
  go_returns
  exact ⟨by rw [HCC.out]; rfl, kW.drewN⟩

set_option maxHeartbeats 2000000 in
set_option maxRecDepth 100000 in
theorem order_any (xs ys : List UInt8) (w : World) (hx : xs.length = 32) (hy : ys.length = 32) :
    Calls Try.prog 44 #[.agg (bs xs).toArray, .agg (bs ys).toArray] w fun e w' => e = .returned (.int .i64 (Lib.compareBytes xs ys)) ∧ Keep [] w w' := by
  have HX := Lib.hid hx
  have HY := Lib.hid hy
  clear hx hy
  go_enter Try.func44, Try.ntmps44
  obtain ⟨p, hp⟩ : ∃ p, w.heap.size = p := ⟨_, rfl⟩
  go_wp2_with fail
  go_loopw [5] (fun v wr => ∃ i, i ≤ 32 ∧ v = .int .i64 (i : Nat) ∧ Hid (Lib.compareBytes xs ys = Lib.compareBytes (xs.drop i) (ys.drop i)) ∧ Blk wr p (bs xs).toArray 37 ∧ Blk wr (p + 1) (bs ys).toArray 37 ∧ Keep [] w wr) (fun v _ => 32 - (intOf v).toNat)
  case atStart => exact ⟨0, by omega, rfl, Lib.hid (by simp), by subst hp; exact (Blk.new w _ 37).alloc _, by subst hp; exact Blk.new' _ _ 37 (by simp), ((Keep.refl [] w).alloc _).alloc _⟩
  case round =>
    clear hp
    obtain ⟨i, hi, rfl, HC, BX, BY, kk⟩ := hrel
    by_cases hlt : i < 32
    · obtain ⟨x, hx⟩ : ∃ x, xs[i]? = some x := ⟨_, List.getElem?_eq_getElem (by have := HX.out; omega)⟩
      obtain ⟨y, hy⟩ : ∃ y, ys[i]? = some y := ⟨_, List.getElem?_eq_getElem (by have := HY.out; omega)⟩
      have cx : wr.cell? ⟨p, i, none⟩ = some (B8 x) := BX.cell (by simp [bs, hx])
      have cy : wr.cell? ⟨p + 1, i, none⟩ = some (B8 y) := BY.cell (by simp [bs, hy])
      have HS := Lib.hid (cmp_step hx hy)
      have i0 : (0 : Int) ≤ i := by omega
      have i1 : (i : Int) < 32 := by omega
      have hBX := BX
      have hBY := BY
      clear hx hy
      by_cases h1 : x < y
      · have t1 : decide (((x.toNat : Nat) : Int) < (y.toNat : Nat)) = true := by simp only [decide_eq_true_eq, decide_eq_false_iff_not, UInt8.lt_iff_toNat_lt] at h1 ⊢; omega
        have HR := Lib.hid (HC.out.trans (HS.out.trans (if_pos h1)))
        go_wp2_with fail
        go_quiet (fail)
        go_wp2_with fail
        go_returns
        exact ⟨by rw [HR.out]; rfl, kk.drewN⟩
      · have t1 : decide (((x.toNat : Nat) : Int) < (y.toNat : Nat)) = false := by simp only [decide_eq_true_eq, decide_eq_false_iff_not, UInt8.lt_iff_toNat_lt] at h1 ⊢; omega
        by_cases h2 : y < x
        · have t2 : decide (((y.toNat : Nat) : Int) < (x.toNat : Nat)) = true := by simp only [decide_eq_true_eq, decide_eq_false_iff_not, UInt8.lt_iff_toNat_lt] at h2 ⊢; omega
          have HR := Lib.hid (HC.out.trans (HS.out.trans ((if_neg h1).trans (if_pos h2))))
          go_wp2_with fail
          go_quiet (fail)
          go_wp2_with fail
          go_quiet (fail)
          go_wp2_with fail
          go_returns
          exact ⟨by rw [HR.out]; rfl, kk.drewN.drewN⟩
        · have t2 : decide (((y.toNat : Nat) : Int) < (x.toNat : Nat)) = false := by simp only [decide_eq_true_eq, decide_eq_false_iff_not, UInt8.lt_iff_toNat_lt] at h2 ⊢; omega
          have HR := Lib.hid (HC.out.trans (HS.out.trans ((if_neg h1).trans (if_neg h2))))
          go_wp2_with fail
          go_quiet (fail)
          go_wp2_with fail
          go_quiet (fail)
          go_wp2_with fail
          exact ⟨⟨i + 1, by omega, by go_num, HR, hBX.drewN, hBY.drewN, kk.drewN⟩, by simp [intOf]; omega⟩
    · obtain rfl : i = 32 := by omega
      rw [List.drop_eq_nil_of_le (by rw [HX.out]; omega), List.drop_eq_nil_of_le (by rw [HY.out]; omega)] at HC
      go_wp2_with fail
      go_returns
      exact ⟨by rw [HC.out]; rfl, kk⟩

end Go.Proofs.Ytjdkeabimcajlaa

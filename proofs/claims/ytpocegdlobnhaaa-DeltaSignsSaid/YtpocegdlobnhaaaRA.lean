/- The walks of roll.of, number, Sum and of the reference's Sum. -/
import Derived.Test.YtpocegdlobnhaaaIb
import Derived.Test.YtpocegdlobnhaaaRows
import Derived.Test.YtpocegdlobnhaaaLib
set_option maxRecDepth 100000
namespace Go.Proofs.Ytpocegdlobnhaaa.Rol
open Go.RowKit

/-- The two sums behind one byte more. -/
def sumStep (s : Int × Int) (x : UInt8) : Int × Int := ((s.1 + x.toNat) % 65536, (s.2 + (s.1 + x.toNat) % 65536) % 65536)
def sums (xs : List UInt8) : Int × Int := xs.foldl sumStep (0, 0)
/-- The document's sum. -/
def sumOf (xs : List UInt8) : Int := (sums xs).1 + 65536 * (sums xs).2

theorem sumStep_range (s : Int × Int) (x : UInt8) : (0 ≤ (sumStep s x).1 ∧ (sumStep s x).1 < 65536) ∧ 0 ≤ (sumStep s x).2 ∧ (sumStep s x).2 < 65536 := by
  simp only [sumStep]; omega

theorem foldl_range (xs : List UInt8) : ∀ s : Int × Int, ((0 ≤ s.1 ∧ s.1 < 65536) ∧ 0 ≤ s.2 ∧ s.2 < 65536) → ((0 ≤ (xs.foldl sumStep s).1 ∧ (xs.foldl sumStep s).1 < 65536) ∧ 0 ≤ (xs.foldl sumStep s).2 ∧ (xs.foldl sumStep s).2 < 65536) := by
  induction xs with
  | nil => intro s h; exact h
  | cons x xs ih => intro s _; exact ih _ (sumStep_range s x)

theorem sums_range (xs : List UInt8) : ((0 ≤ (sums xs).1 ∧ (sums xs).1 < 65536) ∧ 0 ≤ (sums xs).2 ∧ (sums xs).2 < 65536) := foldl_range xs _ (by simp)

theorem sums_snoc (xs : List UInt8) (k : Nat) (h : k < xs.length) : sums (xs.take (k + 1)) = sumStep (sums (xs.take k)) xs[k] := by
  simp only [sums]; rw [List.take_succ_eq_append_getElem h, List.foldl_append]; rfl

theorem u16_step1 (a : Int) (x : UInt8) : IntKind.u16.wrap (a + IntKind.u16.wrap x.toNat) = (a + x.toNat) % 65536 := by
  simp only [IntKind.wrap_u16]; omega
theorem u16_step2 (a b : Int) : IntKind.u16.wrap (b + a % 65536) = (b + a % 65536) % 65536 := by
  simp only [IntKind.wrap_u16]

structure OfInv (w : World) (xs : List UInt8) (k : Nat) (wr : World) : Prop where
  keep : Keep [] w wr
  size : wr.heap.size = w.heap.size + 2
  res : Blk wr w.heap.size #[.int .u16 0, .int .u16 0] 128
  cur : Blk wr (w.heap.size + 1) #[.int .u16 (sums (xs.take k)).1, .int .u16 (sums (xs.take k)).2] 128

theorem OfInv.step {w wr : World} {xs : List UInt8} {k : Nat} (h : OfInv w xs k wr) (hk : k < xs.length) :
    OfInv w xs (k + 1) ((wr.setCell ⟨w.heap.size + 1, 0, none⟩ (.int .u16 (IntKind.u16.wrap ((sums (xs.take k)).1 + IntKind.u16.wrap xs[k].toNat)))).setCell ⟨w.heap.size + 1, 1, none⟩
      (.int .u16 (IntKind.u16.wrap ((sums (xs.take k)).2 + IntKind.u16.wrap ((sums (xs.take k)).1 + IntKind.u16.wrap xs[k].toNat))))) := by
  refine ⟨(h.keep.set (by simp) _).set (by simp) _, by simp [h.size], (h.res.setOther (by simp) _).setOther (by simp) _, ?_⟩
  have e := (h.cur.set 0 (.int .u16 (IntKind.u16.wrap ((sums (xs.take k)).1 + IntKind.u16.wrap xs[k].toNat)))).set 1 (.int .u16 (IntKind.u16.wrap ((sums (xs.take k)).2 + IntKind.u16.wrap ((sums (xs.take k)).1 + IntKind.u16.wrap xs[k].toNat))))
  rw [sums_snoc xs k hk]
  simpa [sumStep, u16_step1, u16_step2] using e

set_option maxHeartbeats 400000 in
theorem of_any (a : Option Addr) (cap : Nat) (xs : List UInt8) (w : World) (hlen : xs.length ≤ 9223372036854775807) (hr : Rd w a (bs xs)) :
    Calls Try.prog 74 #[.slice a xs.length cap] w fun e w' => e = .returned (.agg #[.int .u16 (sums xs).1, .int .u16 (sums xs).2]) ∧ Keep [] w w' := by
  go_enter Try.func74, Try.ntmps74
  go_wp2
  go_loopw [8] (fun i wr => ∃ k : Nat, k ≤ xs.length ∧ i = .int .i64 k ∧ OfInv w xs k wr) (fun i _ => xs.length - (intOf i).toNat)
  case atStart => exact ⟨0, by omega, rfl, ((Keep.refl _ _).alloc _).alloc _, by simp, (Blk.new _ _ _).alloc _, Blk.new' _ _ _ (by simp)⟩
  case round =>
    obtain ⟨k, hk, rfl, hinv⟩ := hrel
    have c0 := hinv.cur.cell (i := 0) rfl
    have c1 := hinv.cur.cell (i := 1) rfl
    have f0 := hinv.cur.free (i := 0)
    have f1 := hinv.cur.free (i := 1)
    by_cases hlt : k < xs.length
    · obtain ⟨b, off, rfl, hcell⟩ := (hr.keep hinv.keep (by simp)).byte hlt
      clear hr
      go_wp2
      exact ⟨⟨k + 1, by omega, by go_num, hinv.step hlt⟩, by simp [intOf]; omega⟩
    · have d0 := hinv.res.cell (i := 0) rfl
      have d1 := hinv.res.cell (i := 1) rfl
      have g0 := hinv.res.free (i := 0)
      have g1 := hinv.res.free (i := 1)
      have e0 : w.heap.size ≠ w.heap.size + 1 := by omega
      go_wp2
      have hk' : k = xs.length := by omega
      subst hk'
      rw [List.take_length]
      exact bodyPost_ret (results_cell_row (d := .struct #[_, _]) rfl _ _ w.heap.size 128 #[.int .u16 (sums xs).1, .int .u16 (sums xs).2] (0, 0) rfl ((hinv.res.set 0 _).set 1 _) Try.underlying128 rfl (by kernel_rfl)) rfl
        ⟨rfl, (hinv.keep.set (by simp) _).set (by simp) _⟩

theorem number_any (a b : Int) (ha : 0 ≤ a ∧ a < 65536) (hb : 0 ≤ b ∧ b < 65536) (w : World) :
    Calls Try.prog 75 #[.agg #[.int .u16 a, .int .u16 b]] w fun e w' => e = .returned (.int .i64 (a + 65536 * b)) ∧ Keep [] w w' := by
  obtain ⟨ha, ha'⟩ := ha
  obtain ⟨hb, hb'⟩ := hb
  go_enter Try.func75, Try.ntmps75
  go_wp2
  go_ret
  refine ⟨?_, (Keep.refl _ _).alloc _⟩
  have h1 : (b * 65536).toNat = 2 ^ 16 * b.toNat := by omega
  have h2 : bits .or .i64 (b * 65536) a = a + 65536 * b := by
    rw [i64_or _ _ (by omega) (by omega) (by omega) (by omega), h1, ← Nat.two_pow_add_eq_or_of_lt (by omega : a.toNat < 2 ^ 16)]
    omega
  rw [← h2]; rfl

theorem refSum_any (a : Option Addr) (cap : Nat) (xs : List UInt8) (w : World) (hlen : xs.length ≤ 9223372036854775807) (hr : Rd w a (bs xs)) :
    Calls Try.prog 46 #[.slice a xs.length cap] w fun e w' => e = .returned (.int .i64 (sumOf xs)) ∧ w' = w := by
  go_enter Try.func46, Try.ntmps46
  go_wp2
  go_loop [3, 4, 5] (fun a b i => ∃ k : Nat, k ≤ xs.length ∧ i = .int .i64 k ∧ a = .int .i64 (sums (xs.take k)).1 ∧ b = .int .i64 (sums (xs.take k)).2) (fun _ _ i => xs.length - (intOf i).toNat)
  case atStart => exact ⟨0, by omega, rfl, rfl, rfl⟩
  case round =>
    obtain ⟨k, hk, rfl, rfl, rfl⟩ := hrel
    obtain ⟨⟨h1, h2⟩, h3, h4⟩ := sums_range (xs.take k)
    by_cases hlt : k < xs.length
    · obtain ⟨b, off, rfl, hcell⟩ := hr.byte hlt
      have hx := xs[k].toNat_lt
      clear hr
      have hs : Hid (sums (xs.take (k+1)) = sumStep (sums (xs.take k)) xs[k]) := sums_snoc xs k hlt
      go_wp2
      have hs' := hs.out
      exact ⟨⟨k + 1, by omega, by go_num, by rw [hs']; rfl, by rw [hs']; rfl⟩, by simp [intOf]; omega⟩
    · go_wp2
      go_ret
      rw [List.take_of_length_le (by omega)]
      exact ⟨rfl, rfl⟩
end Go.Proofs.Ytpocegdlobnhaaa.Rol

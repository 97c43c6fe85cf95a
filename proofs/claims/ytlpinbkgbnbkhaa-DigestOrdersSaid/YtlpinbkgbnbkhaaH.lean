/- An id in hex, and read again: the program's walks. -/
import Derived.Test.YtlpinbkgbnbkhaaG
set_option linter.unusedVariables false
set_option linter.unusedSimpArgs false
namespace Go.Proofs.Ytlpinbkgbnbkhaa
open Go.RowKit

/-- The digits. -/
def digs : List UInt8 := [48, 49, 50, 51, 52, 53, 54, 55, 56, 57, 97, 98, 99, 100, 101, 102]
def dig (n : Nat) : UInt8 := digs.getD n 0
def hexOf (xs : List UInt8) : List UInt8 := xs.flatMap fun x => [dig (x.toNat / 16), dig (x.toNat % 16)]
theorem hexOf_length : ∀ xs : List UInt8, (hexOf xs).length = 2 * xs.length
  | [] => rfl
  | x :: r => by
    have := hexOf_length r
    simp only [hexOf, List.flatMap_cons, List.length_append, List.length_cons, List.length_nil] at this ⊢
    omega
theorem hexOf_append (xs ys : List UInt8) : hexOf (xs ++ ys) = hexOf xs ++ hexOf ys := by simp [hexOf]
/-- A text's bytes as a string. -/
def strOf (xs : List UInt8) : ByteArray := ⟨xs.toArray⟩

theorem run_digit (P : Program) (w : World) (t : TypeId) (h : P.underlying t = some .string) (k : IntKind) (n : Nat) (hn : n < 16) :
    (Instr.index t (.string (strOf digs)) (.int k (n : Int))).run P w = .ok (B8 (dig n)) w := by
  rw [run_index_string w t _ k _ h]
  have hs : (strOf digs).size = 16 := rfl
  rw [dif_pos ⟨by omega, by rw [hs]; omega⟩]
  have key : ∀ n : Nat, n < 16 → ∀ h, ((strOf digs)[((n : Nat) : Int).toNat]'h).toNat = (dig n).toNat := by
    intro n hn h
    have : n = 0 ∨ n = 1 ∨ n = 2 ∨ n = 3 ∨ n = 4 ∨ n = 5 ∨ n = 6 ∨ n = 7 ∨ n = 8 ∨ n = 9 ∨ n = 10 ∨ n = 11 ∨ n = 12 ∨ n = 13 ∨ n = 14 ∨ n = 15 := by omega
    rcases this with rfl | rfl | rfl | rfl | rfl | rfl | rfl | rfl | rfl | rfl | rfl | rfl | rfl | rfl | rfl | rfl <;> rfl
  rw [key n hn]

/-- The value of a digit, or -1. -/
def valD (x : UInt8) : Int := if 48 ≤ x.toNat ∧ x.toNat ≤ 57 then (x.toNat : Int) - 48 else if 97 ≤ x.toNat ∧ x.toNat ≤ 102 then (x.toNat : Int) - 87 else -1
theorem valD_le (x : UInt8) : valD x ≤ 15 ∧ -1 ≤ valD x := by unfold valD; split <;> (try split) <;> omega

theorem value_any (x : UInt8) (w : World) :
    Calls Try.prog 38 #[B8 x] w fun e w' => e = .returned (.int .i64 (valD x)) ∧ w' = w := by
  obtain ⟨n, hn⟩ : ∃ n, x.toNat = n := ⟨_, rfl⟩
  have hlt : n < 256 := by rw [← hn]; exact x.toNat_lt
  show Calls Try.prog 38 #[.int .u8 x.toNat] w _
  unfold valD
  rw [hn]
  go_enter Try.func38, Try.ntmps38
  by_cases h1 : 48 ≤ n
  · have g1 : (48 : Int) ≤ n := by omega
    by_cases h2 : n ≤ 57
    · have g2 : (n : Int) ≤ 57 := by omega
      have e1 : ((n : Int) - 48) % 256 = n - 48 := by omega
      rw [if_pos ⟨h1, h2⟩]
      go_wp2_with fail
      go_returns
      exact ⟨by simp [e1], rfl⟩
    · have g2 : ¬ (n : Int) ≤ 57 := by omega
      rw [if_neg (by omega)]
      by_cases h3 : 97 ≤ n
      · have g3 : (97 : Int) ≤ n := by omega
        by_cases h4 : n ≤ 102
        · have g4 : (n : Int) ≤ 102 := by omega
          have e1 : ((n : Int) - 97) % 256 = n - 97 := by omega
          rw [if_pos ⟨h3, h4⟩]
          go_wp2_with fail
          go_returns
          refine ⟨?_, rfl⟩
          simp [e1]
          omega
        · have g4 : ¬ (n : Int) ≤ 102 := by omega
          rw [if_neg (by omega)]
          go_wp2_with fail
          go_returns
          exact ⟨rfl, rfl⟩
      · have g3 : ¬ (97 : Int) ≤ n := by omega
        rw [if_neg (by omega)]
        go_wp2_with fail
        go_returns
        exact ⟨rfl, rfl⟩
  · have g1 : ¬ (48 : Int) ≤ n := by omega
    have g3 : ¬ (97 : Int) ≤ n := by omega
    rw [if_neg (by omega), if_neg (by omega)]
    go_wp2_with fail
    go_returns
    exact ⟨rfl, rfl⟩

theorem and15 : ∀ n : Nat, n < 256 → bits BinOp.and IntKind.u8 (n : Int) 15 = ((n % 16 : Nat) : Int) := by
  have : ∀ n : Fin 256, bits BinOp.and IntKind.u8 ((n.val : Nat) : Int) 15 = ((n.val % 16 : Nat) : Int) := by decide +kernel
  intro n hn; exact this ⟨n, hn⟩
theorem info5 : (Try.prog.info? 5).map (fun i => (i.zero, i.size, i.bytes)) = some (some (.int .u8 0), 1, 1) := by kernel_rfl
theorem run_index33 (w : World) (X : Array Value) (i : Nat) (v : Value) (hi : i < 32) (hx : X[i]? = some v) : (Instr.index 33 (.agg X) (.int .i64 i)).run Try.prog w = .ok v w := by
  have h1 : (0 : Int) ≤ i := by omega
  have h2 : (i : Int) < 32 := by omega
  have h3 : (i : Int).toNat = i := by omega
  simp [Instr.index, asIntOf, part, hx, go_sem]
  intro hh; omega

/-- 'make([]byte, 0, c)'. -/
theorem make0 (c : Nat) (hc : c ≤ 281474976710656) : ∃ Z : Array Value, Z.size = c ∧ ∀ w, (Instr.makeSlice 29 (.int .i64 0) (.int .i64 (c : Int))).run Try.prog w = .ok (.slice (some ⟨w.heap.size, 0, none⟩) 0 c) (w.alloc (.cells Z 5)) := by
  obtain ⟨i, hi, hzz⟩ := Option.map_eq_some_iff.1 info5
  simp only [Prod.mk.injEq] at hzz
  obtain ⟨hz, hs, hb⟩ := hzz
  refine ⟨madeCells #[.int .u8 0] c, by simp [madeCells], fun w => ?_⟩
  have hr := run_make (P := Try.prog) w 29 5 i (.int .u8 0) Try.underlying29 hi hz .i64 .i64 0 (c : Int) (by omega) (by omega) (by rw [hb]; omega) (by omega)
  have e : (Value.int .u8 0).cells = #[.int .u8 0] := rfl
  rw [hs, e] at hr
  simp only [Int.toNat_natCast, Nat.mul_one] at hr
  exact hr
theorem Sl.room (w : World) (e : TypeId) (Z : Array Value) (c b : Nat) (hb : b = w.heap.size) (hz : Z.size = c) (hm : c ≤ maxLen) : Sl (w.alloc (.cells Z e)) e 1 (.slice (some ⟨b, 0, none⟩) 0 c) 0 [] := by
  subst hb
  refine ⟨rfl, Or.inr ⟨w.heap.size, c, [], Z.toList, rfl, by simpa using Blk.new w Z e, by omega, by simp; omega, hm⟩⟩

set_option maxHeartbeats 4000000 in
set_option maxRecDepth 100000 in
theorem hex_any (xs : List UInt8) (w : World) (hl : xs.length = 32) :
    Calls Try.prog 23 #[.agg (bs xs).toArray] w fun e w' => e = .returned (.string (strOf (hexOf xs))) ∧ Keep [] w w' := by
  obtain ⟨Z, hZ, hmk0⟩ := make0 64 (by omega)
  have hmk : ∀ w, (Instr.makeSlice 29 (.int .i64 0) (.int .i64 64)).run Try.prog w = .ok (.slice (some ⟨w.heap.size, 0, none⟩) 0 64) (w.alloc (.cells Z 5)) := hmk0
  have HL := Lib.hid hl
  obtain ⟨X, hX⟩ : ∃ X, X = (bs xs).toArray := ⟨_, rfl⟩
  have hsz : X.size = 32 := by rw [hX]; exact size32 xs hl
  rw [← hX]
  have HX := Lib.hid hX
  clear hX hl hmk0
  go_enter Try.func23, Try.ntmps23
  go_wp2_with (first
    | (refine wpList_load_row rfl 33 (.tmp 1) rfl w.heap.size rfl 33 X (0, 0) _ ((Blk.new w X 33).alloc _) Try.underlying33 rfl (by rw [hsz]; rfl) ?_)
    | fail)
  have hS0 : Sl ((w.alloc (.cells X 33)).alloc (.cells Z 5)) 5 1 (.slice (some ⟨w.heap.size + 1, 0, none⟩) 0 64) 0 [] := Sl.room _ 5 Z 64 _ (by simp) hZ (by simp [maxLen])
  clear hmk hZ hsz
  go_loopw [3, 8] (fun v3 v8 wr => ∃ i, i ≤ 32 ∧ v8 = .int .i64 (i : Nat) ∧ Sl wr 5 1 v3 (2 * i) (bs (hexOf (xs.take i))) ∧ (∀ b ∈ blks v3, w.heap.size ≤ b) ∧ Keep [] w wr) (fun _ v _ => 32 - (intOf v).toNat)
  case atStart => exact ⟨0, by omega, rfl, hS0, by simp [blks, Value.ownBlock], ((Keep.refl [] w).alloc _).alloc _⟩
  case round =>
    clear hS0
    obtain ⟨i, hi, rfl, hS, hbl, hkr⟩ := hrel
    by_cases hlt : i < 32
    · obtain ⟨x, hx⟩ : ∃ x, xs[i]? = some x := ⟨_, List.getElem?_eq_getElem (by rw [HL.out]; exact hlt)⟩
      have hix : ∀ W, (Instr.index 33 (.agg X) (.int .i64 i)).run Try.prog W = .ok (B8 x) W := fun W => run_index33 W X i _ hlt (by rw [HX.out]; simp [bs, hx])
      have hx256 := x.toNat_lt
      obtain ⟨n, hn⟩ : ∃ n, x.toNat = n := ⟨_, rfl⟩
      have hd1 : ∀ W, (Instr.index 9 (.string ⟨#[48, 49, 50, 51, 52, 53, 54, 55, 56, 57, 97, 98, 99, 100, 101, 102]⟩) (.int .u8 ((n : Int) / 16))).run Try.prog W = .ok (B8 (dig (n / 16))) W := fun W => run_digit Try.prog W 9 Try.underlying9 .u8 (n / 16) (by omega)
      have hd2 : ∀ W, (Instr.index 9 (.string ⟨#[48, 49, 50, 51, 52, 53, 54, 55, 56, 57, 97, 98, 99, 100, 101, 102]⟩) (.int .u8 (bits BinOp.and IntKind.u8 (n : Int) 15))).run Try.prog W = .ok (B8 (dig (n % 16))) W := fun W => by
        rw [and15 n (by omega)]; exact run_digit Try.prog W 9 Try.underlying9 .u8 (n % 16) (by omega)
      have hxk : hexOf (xs.take (i + 1)) = hexOf (xs.take i) ++ [dig (n / 16), dig (n % 16)] := by
        have : xs.take (i + 1) = xs.take i ++ [x] := by rw [List.take_add_one, hx]; rfl
        rw [this, hexOf_append, ← hn]; rfl
      simp only [B8, hn] at hix
      obtain ⟨a, cap, rfl, -, -, hcap, hcap2, -⟩ := hS.form
      have HXK := Lib.hid hxk
      clear hn hxk hx
      have hk1 : Keep [] wr (wr.alloc (.cells #[B8 (dig (n / 16)), B8 (dig (n % 16))] 5)).drew := ((Keep.refl [] wr).alloc _).drew
      have hS1 : Sl (wr.alloc (.cells #[B8 (dig (n / 16)), B8 (dig (n % 16))] 5)).drew 5 1 (.slice a (2 * i) cap) (2 * i) (bs (hexOf (xs.take i))) := hS.keep hk1 (by simp)
      have hrz : Rd (wr.alloc (.cells #[B8 (dig (n / 16)), B8 (dig (n % 16))] 5)).drew (some ⟨wr.heap.size, 0, none⟩) [B8 (dig (n / 16)), B8 (dig (n % 16))] := Rd.made wr _ 5 (0, 0) _ _ rfl rfl
      have HO := Lib.hid (show ∀ u ∈ [B8 (dig (n / 16)), B8 (dig (n % 16))], u.oneCell' = true by simp [Value.oneCell'])
      have HBL := Lib.hid hbl
      clear hS hbl
      go_wp2_with fail
      go_region_law (refine step_appendS rfl (.tmp 11) (.tmp 18) 29 rfl 5 (.int .u8 0) 1 1 Try.underlying29 info5 rfl (by omega) (.slice a (2 * i) cap) (2 * i) _ rfl hS1 (some ⟨wr.heap.size, 0, none⟩) 2 2 [B8 (dig (n / 16)), B8 (dig (n % 16))] rfl rfl (by simp) hrz HO.out (by simp only [maxLen]; omega) (by omega) ?_; intro va w6 hs6 hk6 hb6)
      all_goals go_wp2
      all_goals exact ⟨⟨i + 1, by omega, by go_num, by rw [HXK.out, bs_append]; exact hs6, fun b hb => by
          have h5 := HBL.out
          have h6 := hkr.size
          rcases hb6 with e | e
          · rw [e] at hb; exact h5 b hb
          · have h7 := e b hb; simp at h7; omega, (hkr.trans' hk1).trans hk6 (fun b hb => Or.inr (HBL.out b hb))⟩, by simp [intOf]; omega⟩
    · obtain rfl : i = 32 := by omega
      rw [List.take_of_length_le (by rw [HL.out]; omega)] at hS
      obtain ⟨a, cap, rfl, ha, hrd, hcap, hcap2, -⟩ := hS.form
      have hlen : (hexOf xs).length = 64 := by rw [hexOf_length, HL.out]
      obtain ⟨b, off, rfl, hc⟩ : ∃ b off, a = some ⟨b, off, none⟩ ∧ ∀ j v, (bs (hexOf xs))[j]? = some v → wr.cell? ⟨b, off + j, none⟩ = some v := by
        rcases hrd with e | ⟨b, off, e, hc⟩
        · have := congrArg List.length e; rw [bs_length, hlen] at this; simp at this
        · exact ⟨b, off, e, hc⟩
      have hcv : (convert 29 9 (.slice (some ⟨b, off, none⟩) 64 cap)).run Try.prog wr = .ok (.string (strOf (hexOf xs))) wr := by
        have := run_convert_bytes_back (P := Try.prog) wr 29 9 5 ⟨b, off, none⟩ cap (hexOf xs) Try.underlying29 Try.underlying5 Try.underlying9 (fun j hj => by
          rw [add_off]; exact hc j _ (by simp [bs, List.getElem?_eq_getElem hj]))
        rw [hlen] at this
        exact this
      have HCV := Lib.hid hcv
      clear hS hrd hc hlen ha
      go_wp2_with fail
      go_returns
      exact ⟨rfl, hkr⟩
end Go.Proofs.Ytlpinbkgbnbkhaa

/- Encode of the program and of the document. -/
import Derived.Test.YtjdkeabimcajlaaVb
import Derived.Test.YtjdkeabimcajlaaG
set_option linter.unusedVariables false
set_option linter.unusedSimpArgs false
namespace Go.Proofs.Ytjdkeabimcajlaa
open Go.RowKit

/-- A row of bytes of the call's own. -/
def Owns (w : World) (e : Ending) (w' : World) (xs : List UInt8) : Prop :=
  ∃ a c, e = .returned (.slice a xs.length c) ∧ Sl w' 5 1 (.slice a xs.length c) xs.length (bs xs) ∧ Fr w [] (blks (.slice a xs.length c)) ∧ Keep [] w w'

set_option maxHeartbeats 2000000 in
set_option maxRecDepth 100000 in
theorem refNumber_any (V : Nat) (w : World) (hV : V ≤ 2147483647) : Calls Try.prog 41 #[.int .i64 V] w fun e w' => Owns w e w' (numB V) := by
  go_enter Try.func41, Try.ntmps41
  go_wp2_with fail
  go_loopw [0, 3] (fun v0 v3 wr => ∃ (m k : Nat) (xs : List UInt8), v0 = .int .i64 m ∧ m ≤ 2147483647 ∧ xs.length = k ∧ Hid (numB V = xs ++ numB m) ∧ Sl wr 5 1 v3 k (bs xs) ∧ (∀ b ∈ blks v3, w.heap.size ≤ b) ∧ Keep [] w wr) (fun v0 _ _ => (intOf v0).toNat)
  case atStart => exact ⟨V, 0, [], rfl, hV, rfl, Lib.hid (by simp), Sl.nil _ _ _, by simp [blks, Value.ownBlock], Keep.refl _ _⟩
  case round =>
    obtain ⟨m, k, xs, rfl, hm, hk, HN, hS, hb, hkw⟩ := hrel
    obtain ⟨sa, sc, rfl, -, -, hsc, hsm, -⟩ := hS.form
    have hk5 : k + 1 ≤ 5 := by
      have h1 := congrArg List.length HN.out
      have h2 := numB_len5 hV
      have h3 := numB_len5 hm
      rw [List.length_append] at h1; omega
    by_cases hlt : 128 ≤ m
    · have g1 : (128 : Int) ≤ m := by omega
      go_wp2_with (first
        | (at_builtin; go_must (refine wpList_append1 wr rfl (.tmp 6) (.tmp 11) 25 rfl 5 (.int .u8 0) 1 Try.underlying25 info5 rfl (.int .u8 (128 + (m : Int) % 128)) rfl (.slice sa k sc) k _ rfl hS rfl (by simp only [maxLen]; omega) (by omega) ?_; intro a1 c1 w1 hs1 hk1 hf1))
        | fail)
      have hval : Value.int .u8 (128 + (m : Int) % 128) = B8 (UInt8.ofNat (m % 128 + 128)) := by
        rw [← byte_low _ (by omega)]; congr 1; omega
      rw [hval] at hs1
      refine ⟨⟨m / 128, k + 1, xs ++ [UInt8.ofNat (m % 128 + 128)], by congr 1, by omega, by simp [hk], ?_, ?_, ?_, ?_⟩, ?_⟩
      · exact Lib.hid (by rw [HN.out, numB_big (by omega)]; simp)
      · simpa [bs_append] using hs1
      · exact fun b h => by rcases hf1 b h with h1 | h1; exact hb b h1; have := hkw.size; omega
      · exact hkw.trans hk1 (fun b h => Or.inr (hb b h))
      · simp [intOf]; omega
    · have g1 : ¬ (128 : Int) ≤ m := by omega
      go_wp2_with (first
        | (at_builtin; go_must (refine wpList_append1 wr rfl (.tmp 15) (.tmp 18) 25 rfl 5 (.int .u8 0) 1 Try.underlying25 info5 rfl (.int .u8 (m : Int)) rfl (.slice sa k sc) k _ rfl hS rfl (by simp only [maxLen]; omega) (by omega) ?_; intro a1 c1 w1 hs1 hk1 hf1))
        | fail)
      go_returns
      rw [byte_low m (by omega)] at hs1
      have hlen : (numB V).length = k + 1 := by rw [HN.out, numB_small (show m < 128 by omega)]; simp [hk]
      refine ⟨a1, c1, by rw [hlen]; rfl, ?_, ?_, hkw.trans hk1 (fun b h => Or.inr (hb b h))⟩
      · rw [hlen, HN.out, numB_small (show m < 128 by omega), bs_append]; exact hs1
      · rw [hlen]; exact Fr.new (w' := w) (fun b h => by rcases hf1 b h with h1 | h1; exact hb b h1; have := hkw.size; omega)


/-- A result's bytes, a table's. -/
def resB (x : Res) : List UInt8 := x.act ++ (x.root ++ [UInt8.ofNat x.code.toNat])
theorem resB_len (x : Res) : (resB x).length = 65 := by simp [resB, x.la, x.lr]
def encR (l : List Res) : List UInt8 := numB l.length ++ l.flatMap resB
theorem flat_len (l : List Res) : (l.flatMap resB).length = l.length * 65 := by
  induction l with
  | nil => rfl
  | cons x l ih => rw [List.flatMap_cons, List.length_append, resB_len, ih, List.length_cons]; omega
theorem flat_take {l : List Res} {i : Nat} {x : Res} (h : l[i]? = some x) : (l.take (i + 1)).flatMap resB = (l.take i).flatMap resB ++ resB x := by
  rw [List.take_add_one, h]; simp
theorem valid_32 {l : List Res} (h : validR l = true) : l.length ≤ 32 := by
  unfold validR at h; simp at h; exact h.1
theorem valid_code {l : List Res} (h : validR l = true) {i : Nat} {x : Res} (hx : l[i]? = some x) : 0 ≤ x.code ∧ x.code ≤ 255 := by
  have hi := (List.getElem?_eq_some_iff.1 hx).1
  by_cases hf : fitR x = true
  · simpa [fitR] using hf
  · have hn := okTo_no (step_unfit hx (by simpa using hf)) hi
    rw [valid_no hn] at h; cases h

theorem Rd.range {w : World} {b o : Nat} {vs : List Value} (h : w.rangeAt b o vs) : Rd w (some ⟨b, o, none⟩) vs := Or.inr ⟨b, o, rfl, h⟩
theorem WrAt.new (w : World) (b : Nat) (hb : b = w.heap.size) : WrAt (w.alloc (.cells #[.int .i64 0, .int .i64 0, .slice none 0 0] 67)) b [b] false [] :=
  ⟨0, 0, _, Blk.new' w _ 67 hb, Sl.nil _ _ _, rfl, rfl, by simp [blks, Value.ownBlock]⟩

set_option maxRecDepth 100000 in
theorem encode_no (a : Option Addr) (n c : Nat) (l : List Res) (w : World) (hx : RsIn w a n c l) (hv : validR l = false) :
    Calls Try.prog 14 #[.slice a n c] w fun e w' => e = .returned (.tuple #[.slice none 0 0, .int .i64 80]) ∧ Keep [] w w' := by
  have C1 := valid_any a n c l w hx
  rw [hv] at C1
  have C1 := Lib.hid C1
  go_enter Try.func14, Try.ntmps14
  go_wp2_with (first | (go_at_call 17; refine C1.out.mono ?_; rintro e w1 ⟨rfl, hk1⟩) | fail)
  go_returns
  exact ⟨rfl, hk1⟩

set_option maxHeartbeats 4000000 in
set_option maxRecDepth 100000 in
theorem encode_yes (a : Option Addr) (n c : Nat) (l : List Res) (w : World) (hx : RsIn w a n c l) (hv : validR l = true) :
    Calls Try.prog 14 #[.slice a n c] w fun e w' => ∃ a' c', e = .returned (.tuple #[.slice a' (encR l).length c', .int .i64 0]) ∧ Sl w' 5 1 (.slice a' (encR l).length c') (encR l).length (bs (encR l)) ∧ Fr w [] (blks (.slice a' (encR l).length c')) ∧ Keep [] w w' := by
  have C1 := valid_any a n c l w hx
  rw [hv] at C1
  have C1 := Lib.hid C1
  have hl := hx.hlen
  have h32 := valid_32 hv
  have HL := Lib.hid hl
  have hn32 : n ≤ 32 := by omega
  have hcode := Lib.hid (fun i x hx => valid_code hv (i := i) (x := x) hx)
  obtain ⟨N, hN, hso⟩ := size39
  have HN := Lib.hid hN
  clear hN hl h32 hv
  go_enter Try.func14, Try.ntmps14
  go_upto_region 4 with (first | (go_at_call 17; refine C1.out.mono ?_; rintro e w1 ⟨rfl, hk1⟩) | fail)
  have kP : Keep [] w (w1.alloc (.cells #[.int .i64 0, .int .i64 0, .slice none 0 0] 67)) := hk1.alloc _
  have hW := WrAt.new w1 _ rfl
  obtain ⟨W2, hW2⟩ : ∃ W, w1.alloc (.cells #[.int .i64 0, .int .i64 0, .slice none 0 0] 67) = W := ⟨_, rfl⟩
  obtain ⟨P, hP⟩ : ∃ P, w1.heap.size = P := ⟨_, rfl⟩
  have pw : w.heap.size ≤ P := by have := hk1.size; omega
  rw [hW2] at kP hW ⊢
  rw [hP] at hW ⊢
  have hi : isNum (n : Int) = true := by simp [isNum]; omega
  have hnum := number_any P [P] false [] n W2 hW (by simp [Lit.wf, IntKind.min, IntKind.max, IntKind.signed, IntKind.bits]; omega) (by simp)
  rw [hi] at hnum
  simp only [Bool.not_true, Bool.or_false, Int.toNat_natCast, putD, Bool.false_eq_true, if_false, List.nil_append] at hnum
  have HNUM := Lib.hid hnum
  clear hnum hi hW2 hP hk1 C1
  go_upto_region 5 with (first
    | (go_at_call 37; refine HNUM.out.mono ?_; rintro e w3 ⟨rfl, ⟨S3, hW3, hf3⟩, hk3⟩)
    | fail)
  have k3 : Keep [] w w3 := kP.trans hk3 (fun b hb => by simp only [List.mem_singleton] at hb; subst hb; exact Or.inr pw)
  have f3 : Fr w [] S3 := fun b hb => by
    rcases hf3 b hb with h | h
    · simp only [List.mem_singleton] at h; subst h; exact Or.inr pw
    · exact Or.inr (Nat.le_trans kP.size h)
  clear hW hf3 hk3 HNUM kP
  go_wp2_with fail
  go_loopw [6, 15] (fun v6 v15 wr => ∃ (i : Nat) (S : List Nat), i ≤ n ∧ v15 = .int .i64 (i : Nat) ∧ WrAt wr P S false (numB n ++ (l.take i).flatMap resB) ∧ Fr w [] S ∧ Keep [] w wr) (fun _ v15 _ => n - (intOf v15).toNat)
  case atStart => exact ⟨0, S3, by omega, rfl, by simpa using hW3, f3, k3⟩
  case round =>
    clear hW3 f3 k3
    obtain ⟨i, S, hi, rfl, hWr, hF, kk⟩ := hrel
    have hdl : (numB n ++ (l.take i).flatMap resB).length ≤ 5 + 32 * 65 := by
      have h5 := (numB_len5 (show n ≤ 2147483647 by omega)).2
      rw [List.length_append, flat_len, List.length_take]
      have : min i l.length ≤ 32 := by omega
      have : min i l.length * 65 ≤ 32 * 65 := Nat.mul_le_mul_right _ this
      omega
    by_cases hlt : i < n
    · obtain ⟨x, b, off, ex, rfl, rx⟩ := (hx.keep kk (by simp)).at hlt
      obtain ⟨hc0, hc1⟩ := hcode.out i x ex
      have i0 : (0 : Int) ≤ i := by omega
      have i1 : (i : Int) < n := by omega
      have HEX := Lib.hid (flat_take ex)
      rw [HN.out] at rx
      have HX65 := Lib.hid (show x.cells.toArray.size = 65 by simpa using x.len)
      have HDL := Lib.hid hdl
      obtain ⟨d, hd⟩ : ∃ d, numB n ++ (l.take i).flatMap resB = d := ⟨_, rfl⟩
      rw [hd] at hWr HDL
      have HD := Lib.hid hd
      clear ex hdl hd
      go_upto_region 8 with (first
        | (refine wpList_load_mid rfl 39 (.tmp 17) rfl b (off + i * N) rfl x.cells _ rx Try.underlying39 rfl (hi39 x) ?_)
        | (refine wpList_store_last rfl 39 (.tmp 6) (.tmp 18) rfl _ _ x.cells.toArray rfl rfl rfl (by rw [HX65.out]; rfl) (by rw [HX65.out]; rfl) (res_all x) ?_)
        | fail)
      have BX : Blk (wr.alloc (.cells x.cells.toArray 39)) wr.heap.size x.cells.toArray 39 := Blk.new _ _ _
      have kW : Keep [] wr (wr.alloc (.cells x.cells.toArray 39)) := (Keep.refl _ _).alloc _
      have hW4 := hWr.keep kW (by simp)
      have hSlt := hWr.lt
      obtain ⟨W4, e4⟩ : ∃ W, wr.alloc (.cells x.cells.toArray 39) = W := ⟨_, rfl⟩
      obtain ⟨px, hpx⟩ : ∃ P, wr.heap.size = P := ⟨_, rfl⟩
      have s4 : W4.heap.size = px + 1 := by rw [← e4, ← hpx]; simp
      rw [e4] at BX kW hW4 ⊢
      rw [hpx] at BX hSlt ⊢
      have kw4 := kk.trans' kW
      have hpx0 : w.heap.size ≤ px := by have := kk.size; omega
      have hpS : px ∉ S := fun h => by have := hSlt _ h; omega
      have hpP : px ≠ P := fun h => hpS (h ▸ hWr.self)
      have rX := rangeAt_of_blk BX
      clear hWr kk kW e4 hpx rx BX
      have HR1 := Lib.hid (raw_any P S false d x.act (some ⟨px, 0, none⟩) 32 32 W4 hW4 x.la (fun h => by cases h) (Rd.range (rangeAt_act rX)) (fun _ => hpP) (by have := HDL.out; omega))
      go_upto_region 9 with (first
        | (go_at_call 38; refine HR1.out.mono ?_; rintro e w5 ⟨rfl, ⟨S5, hW5, hf5⟩, hk5⟩)
        | fail)
      have rX5 := rangeAt_keep rX hk5 hpS
      have hpS5 : px ∉ S5 := fun h => by rcases hf5 _ h with h | h; exact hpS h; omega
      have hF5 : Fr w [] S5 := hF.trans hf5 kw4.size
      have kw5 : Keep [] w w5 := kw4.trans hk5 (fun b hb => by rcases hF b hb with h | h; cases h; exact Or.inr h)
      simp only [putD, Bool.false_eq_true, if_false] at hW5
      clear HR1 hk5 hf5 hW4 rX
      have HR2 := Lib.hid (raw_any P S5 false (d ++ x.act) x.root (some ⟨px, 32, none⟩) 32 32 w5 hW5 x.lr (fun h => by cases h) (Rd.range (by have := rangeAt_root rX5; simpa using this)) (fun _ => hpP) (by have := HDL.out; rw [List.length_append, x.la]; omega))
      go_upto_region 10 with (first
        | (go_at_call 38; refine HR2.out.mono ?_; rintro e w6 ⟨rfl, ⟨S6, hW6, hf6⟩, hk6⟩)
        | fail)
      have rX6 := rangeAt_keep rX5 hk6 hpS5
      have hF6 : Fr w [] S6 := hF5.trans hf6 kw5.size
      have kw6 : Keep [] w w6 := kw5.trans hk6 (fun b hb => by rcases hF5 b hb with h | h; cases h; exact Or.inr h)
      simp only [putD, Bool.false_eq_true, if_false] at hW6
      clear HR2 hk6 hf6 hW5 rX5
      have cx := rangeAt_code rX6
      rw [Nat.zero_add] at cx
      obtain ⟨z, hz⟩ : ∃ z, x.code = z := ⟨_, rfl⟩
      have hfx : isFix z 1 = true := by rw [← hz]; simp [isFix]; omega
      have hR3 := fixed_any P S6 false (d ++ x.act ++ x.root) z 1 w6 hW6 (by rw [← hz]; simp [Lit.wf, IntKind.min, IntKind.max, IntKind.signed, IntKind.bits]; omega) (by have := HDL.out; rw [List.length_append, List.length_append, x.la, x.lr]; omega)
      rw [hfx] at hR3
      simp only [Bool.not_true, Bool.or_false, putD, Bool.false_eq_true, if_false] at hR3
      have e1 : fixB z.toNat (1 : Int).toNat = [UInt8.ofNat z.toNat] := by simp [fixB]
      rw [e1] at hR3
      rw [hz] at cx
      have HR3 := Lib.hid hR3
      have HZ := Lib.hid hz
      clear hR3 hfx e1 hz rX6
      go_wp2_with (first
        | (go_at_call 39; refine HR3.out.mono ?_; rintro e w7 ⟨rfl, ⟨S7, hW7, hf7⟩, hk7⟩)
        | fail)
      refine ⟨⟨i + 1, S7, by omega, by go_num, ?_, hF6.trans hf7 kw6.size, kw6.trans hk7 (fun b hb => by rcases hF6 b hb with h | h; cases h; exact Or.inr h)⟩, by simp [intOf]; omega⟩
      rw [HEX.out, ← List.append_assoc, HD.out, resB, HZ.out, ← List.append_assoc, ← List.append_assoc]
      exact hW7
    · have hin : i = n := by omega
      have HIN := Lib.hid hin
      have hfull : numB n ++ (l.take i).flatMap resB = encR l := by
        rw [List.take_of_length_le (by rw [HL.out]; omega), encR, HL.out]
      rw [hfull] at hWr hdl
      have HD := Lib.hid (data_ok P S (encR l) wr hWr (by omega))
      clear hfull hin
      go_wp2_with (first
        | (go_at_call 40; refine HD.out.mono ?_; rintro e w9 ⟨a9, n9, c9, rfl, hn9, hs9, hf9, hk9⟩)
        | fail)
      go_returns
      subst hn9
      exact ⟨a9, c9, rfl, hs9, hf9.le kk.size, kk.trans' hk9⟩
end Go.Proofs.Ytjdkeabimcajlaa

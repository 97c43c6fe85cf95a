/- A Writer's Fixed, Raw, Text, Data. -/
import Derived.Test.YtpocegdlobnhaaaCB
set_option linter.unusedVariables false
set_option linter.unusedSimpArgs false
set_option maxRecDepth 100000
namespace Go.Proofs.Ytpocegdlobnhaaa.Cod
open Go.RowKit

/-- A number in so many bytes. -/
def fixB (v : Nat) : Nat → List UInt8
  | 0 => []
  | n + 1 => UInt8.ofNat (v / 2 ^ (8 * n)) :: fixB v n
def isFix (v width : Int) : Bool := decide (1 ≤ width ∧ width ≤ 4 ∧ 0 ≤ v ∧ v < 2 ^ (8 * width.toNat))
theorem fixB_len (v : Nat) : ∀ n, (fixB v n).length = n
  | 0 => rfl
  | n + 1 => by simp [fixB, fixB_len v n]

theorem byte_div (V i : Nat) : Value.int .u8 ((V : Int) / 2 ^ (8 * i) % 256) = B8 (UInt8.ofNat (V / 2 ^ (8 * i))) := by
  have : ((V : Int) / 2 ^ (8 * i)) = ((V / 2 ^ (8 * i) : Nat) : Int) := by push_cast; rfl
  rw [this, byte_nat]

set_option maxHeartbeats 2000000 in
theorem fixed_ok (P : Nat) (S : List Nat) (bad : Bool) (d : List UInt8) (V K : Nat) (w : World) (hW : WrAt w P S bad d) (hK1 : 1 ≤ K) (hK4 : K ≤ 4) (hV : V < 2 ^ (8 * K)) (hsum : d.length + 5 ≤ 140737488355328) :
    Calls Try.prog 66 #[.pointer (some ⟨P, 0, none⟩), .int .i64 V, .int .i64 K] w fun e w' => e = .returned (.tuple #[]) ∧ (∃ S', WrAt w' P S' bad (putD bad d (fixB V K)) ∧ Fr w S S') ∧ Keep S w w' := by
  obtain ⟨T, hT, hVT⟩ : ∃ T : Int, wrap64 (2 ^ (8 * K)) = T ∧ (V : Int) < T := by
    have : K = 1 ∨ K = 2 ∨ K = 3 ∨ K = 4 := by omega
    rcases this with rfl | rfl | rfl | rfl <;> exact ⟨_, rfl, by simp [wrap64] at hV ⊢; omega⟩
  have t1 : decide ((K : Int) < 1) = false := by simp; omega
  have t2 : decide (4 < (K : Int)) = false := by simp; omega
  have t3 : decide ((V : Int) < 0) = false := by simp
  have t4 : decide (T ≤ (V : Int)) = false := by simp; omega
  have hV9 : V < 4294967296 := Nat.lt_of_lt_of_le hV (Nat.pow_le_pow_right (by omega) (show 8 * K ≤ 32 by omega))
  clear hV
  go_enter Try.func66, Try.ntmps66
  go_upto_region 4 with fail
  clear t1 t2 t3 t4 hVT hT
  go_wp2_with fail
  go_loopw [6, 7] (fun v6 v7 wr => ∃ (j k : Nat) (xs : List UInt8), v7 = .int .i64 ((j : Int) - 1) ∧ j + k = K ∧ xs.length = k ∧ Hid (fixB V K = xs ++ fixB V j) ∧ Sl wr 5 1 v6 k (bs xs) ∧ (∀ b ∈ blks v6, w.heap.size ≤ b) ∧ Keep [] w wr) (fun _ v7 _ => (intOf v7 + 1).toNat)
  case atStart => exact ⟨K, 0, [], rfl, rfl, rfl, Lib.hid (by simp), Sl.nil _ _ _, by simp [blks, Value.ownBlock], Keep.refl _ _⟩
  case round =>
    obtain ⟨j, k, xs, rfl, hjk, hk, HN, hS, hb, hkw⟩ := hrel
    obtain ⟨sa, sc, rfl, -, -, hsc, hsm, -⟩ := hS.form
    have HJK := Lib.hid hjk
    have hk4 : k ≤ 4 := by omega
    cases j with
    | zero =>
      clear hjk
      have e0 : ((0 : Nat) : Int) - 1 = -1 := rfl
      rw [e0]
      have hput := put_any P S bad true d (fixB V K) sa k sc wr (hW.keep hkw (by simp)) (by have := HJK.out; rw [fixB_len]; omega) hS.use.2.1 (by rw [HN.out]; simpa [fixB] using hS.use.2.2.1) (fun hne hE => by
        have h1 := hS.ablk (fun e => hne (by rw [HN.out]; simpa [bs, fixB] using e))
        have h2 := hW.lt P hW.self
        have := hb _ h1; omega) (by omega)
      go_wp2_with (first
        | (go_at_call 99; refine hput.mono ?_; rintro e w2 ⟨rfl, ⟨S', hW2, hf2⟩, hk2⟩)
        | fail)
      go_returns
      exact ⟨rfl, ⟨S', by simpa using hW2, hf2.le hkw.size⟩, ((hkw.mono (by simp)).trans hk2 (fun b hb => Or.inl hb) : Keep S w w2)⟩
    | succ i =>
      have hi : i ≤ 3 := by omega
      have e0 : ((i + 1 : Nat) : Int) - 1 = i := by omega
      rw [e0]
      clear hjk e0
      go_wp2_with (first
        | (at_builtin; refine wpList_append1 wr rfl (.tmp 35) (.tmp 41) 22 rfl 5 (.int .u8 0) 1 Try.underlying22 info5 rfl (.int .u8 ((V : Int) / 2 ^ (8 * i) % 256)) rfl (.slice sa k sc) k _ rfl hS rfl (by simp only [maxLen]; omega) (by omega) ?_; intro a1 c1 w1 hs1 hk1 hf1)
        | fail)
      rw [byte_div] at hs1
      refine ⟨⟨i, k + 1, xs ++ [UInt8.ofNat (V / 2 ^ (8 * i))], rfl, by have := HJK.out; omega, by simp [hk], ?_, ?_, ?_, ?_⟩, ?_⟩
      · exact Lib.hid (by rw [HN.out, fixB]; simp)
      · simpa [bs_append] using hs1
      · exact fun b h => by rcases hf1 b h with h1 | h1; exact hb b h1; have := hkw.size; omega
      · exact hkw.trans hk1 (fun b h => Or.inr (hb b h))
      · simp [intOf]

set_option maxHeartbeats 2000000 in
theorem fixed_no (P : Nat) (S : List Nat) (bad : Bool) (d : List UInt8) (v k : Int) (w : World) (hW : WrAt w P S bad d) (hv : (Lit.int .i64 v).wf = true) (hn : isFix v k = false) (hd : d.length + 5 ≤ 140737488355328) :
    Calls Try.prog 66 #[.pointer (some ⟨P, 0, none⟩), .int .i64 v, .int .i64 k] w fun e w' => e = .returned (.tuple #[]) ∧ (∃ S', WrAt w' P S' true d ∧ Fr w S S') ∧ Keep S w w' := by
  have hput := put_any P S bad false d [] none 0 0 w hW rfl (fun _ => rfl) Rd.nil (fun h => absurd rfl h)
  have hn' : ¬ (1 ≤ k ∧ k ≤ 4 ∧ 0 ≤ v ∧ v < 2 ^ (8 * k.toNat)) := by simpa [isFix] using hn
  have fin : ∀ w', (∃ S', WrAt w' P S' (bad || !false) (putD (bad || !false) d []) ∧ Fr w S S') → (∃ S', WrAt w' P S' true d ∧ Fr w S S') := by
    rintro w' ⟨S', h1, h2⟩; exact ⟨S', by simpa [putD] using h1, h2⟩
  clear hn
  have hput := hput (by omega)
  by_cases h1 : k < 1
  · clear hn'
    go_enter Try.func66, Try.ntmps66
    go_wp2_with (first | (go_at_call 99; refine hput.mono ?_; rintro e w2 ⟨rfl, hx, hk2⟩) | fail)
    go_returns
    exact ⟨rfl, fin _ hx, hk2⟩
  · by_cases h2 : 4 < k
    · clear hn'
      go_enter Try.func66, Try.ntmps66
      go_wp2_with (first | (go_at_call 99; refine hput.mono ?_; rintro e w2 ⟨rfl, hx, hk2⟩) | fail)
      go_returns
      exact ⟨rfl, fin _ hx, hk2⟩
    · by_cases h3 : v < 0
      · clear hn'
        go_enter Try.func66, Try.ntmps66
        go_wp2_with (first | (go_at_call 99; refine hput.mono ?_; rintro e w2 ⟨rfl, hx, hk2⟩) | fail)
        go_returns
        exact ⟨rfl, fin _ hx, hk2⟩
      · obtain ⟨K, rfl⟩ : ∃ K : Nat, k = K := ⟨k.toNat, by omega⟩
        obtain ⟨T, hT, hVT⟩ : ∃ T : Int, wrap64 (2 ^ (8 * K)) = T ∧ T ≤ v := by
          have : K = 1 ∨ K = 2 ∨ K = 3 ∨ K = 4 := by omega
          rcases this with rfl | rfl | rfl | rfl <;> exact ⟨_, rfl, by simp [wrap64] at hn' ⊢; omega⟩
        clear hn'
        have t1 : decide ((K : Int) < 1) = false := by simp; omega
        have t2 : decide (4 < (K : Int)) = false := by simp; omega
        have t3 : decide (v < 0) = false := by simp; omega
        have t4 : decide (T ≤ v) = true := by simp; omega
        have hK8 : 8 * (K : Int) ≤ 32 := by omega
        have hK0 : (0 : Int) ≤ 8 * (K : Int) := by omega
        clear h1 h2 h3 hVT
        go_enter Try.func66, Try.ntmps66
        go_wp2_with (first | (go_at_call 99; refine hput.mono ?_; rintro e w2 ⟨rfl, hx, hk2⟩) | fail)
        go_returns
        exact ⟨rfl, fin _ hx, hk2⟩

theorem fixed_any (P : Nat) (S : List Nat) (bad : Bool) (d : List UInt8) (v k : Int) (w : World) (hW : WrAt w P S bad d) (hv : (Lit.int .i64 v).wf = true) (hd : d.length + 5 ≤ 140737488355328) :
    Calls Try.prog 66 #[.pointer (some ⟨P, 0, none⟩), .int .i64 v, .int .i64 k] w fun e w' => e = .returned (.tuple #[]) ∧ (∃ S', WrAt w' P S' (bad || !isFix v k) (putD (bad || !isFix v k) d (fixB v.toNat k.toNat)) ∧ Fr w S S') ∧ Keep S w w' := by
  cases h : isFix v k with
  | false =>
    refine (fixed_no P S bad d v k w hW hv h hd).mono ?_
    rintro e w' ⟨h1, ⟨S', h2, h3⟩, h4⟩
    exact ⟨h1, ⟨S', by simpa [putD] using h2, h3⟩, h4⟩
  | true =>
    obtain ⟨h1, h2, h3, h4⟩ : 1 ≤ k ∧ k ≤ 4 ∧ 0 ≤ v ∧ v < 2 ^ (8 * k.toNat) := by simpa [isFix] using h
    obtain ⟨K, rfl⟩ : ∃ K : Nat, k = K := ⟨k.toNat, by omega⟩
    obtain ⟨V, rfl⟩ : ∃ V : Nat, v = V := ⟨v.toNat, by omega⟩
    have := fixed_ok P S bad d V K w hW (by omega) (by omega) (by have h5 := h4; simp only [Int.toNat_natCast] at h5; exact_mod_cast h5) hd
    simpa using this

theorem raw_any (P : Nat) (S : List Nat) (bad : Bool) (d xs : List UInt8) (a : Option Addr) (n c : Nat) (w : World) (hW : WrAt w P S bad d) (hl : xs.length = n) (hc : a = none → c = 0) (hrd : Rd w a (bs xs)) (hP : xs ≠ [] → ablk a ≠ P)
    (hsum : d.length + n ≤ 140737488355328) :
    Calls Try.prog 68 #[.pointer (some ⟨P, 0, none⟩), .slice a n c] w fun e w' => e = .returned (.tuple #[]) ∧ (∃ S', WrAt w' P S' bad (putD bad d xs) ∧ Fr w S S') ∧ Keep S w w' := by
  have hput := put_any P S bad true d xs a n c w hW hl hc hrd hP hsum
  go_enter Try.func68, Try.ntmps68
  go_wp2_with (first | (go_at_call 99; refine hput.mono ?_; rintro e w2 ⟨rfl, ⟨S', hx, hf⟩, hk2⟩) | fail)
  go_returns
  exact ⟨rfl, ⟨S', by simpa using hx, hf⟩, hk2⟩

theorem putD_putD (b1 b2 : Bool) (d x y : List UInt8) : putD (b1 || b2) (putD b1 d x) y = if b1 then d else putD b2 (d ++ x) y := by
  cases b1 <;> simp [putD]

/-- What Text writes. -/
def textB (xs : List UInt8) : List UInt8 := numB xs.length ++ xs
theorem text_any (P : Nat) (S : List Nat) (bad : Bool) (d xs : List UInt8) (a : Option Addr) (n c : Nat) (w : World) (hW : WrAt w P S bad d) (hl : xs.length = n) (hc : a = none → c = 0) (hrd : Rd w a (bs xs)) (hP : xs ≠ [] → ablk a ∉ S)
    (hsum : d.length + n + 5 ≤ 140737488355328) (hn : n ≤ 2147483647) (hlt : xs ≠ [] → ablk a < w.heap.size) :
    Calls Try.prog 79 #[.pointer (some ⟨P, 0, none⟩), .slice a n c] w fun e w' => e = .returned (.tuple #[]) ∧ (∃ S', WrAt w' P S' bad (putD bad d (textB xs)) ∧ Fr w S S') ∧ Keep S w w' := by
  have hi : isNum (n : Int) = true := by simp [isNum]; omega
  have hnum := number_any P S bad d n w hW (by simp [Lit.wf, IntKind.min, IntKind.max, IntKind.signed, IntKind.bits]; omega) (by omega)
  rw [hi] at hnum
  simp only [Bool.not_true, Bool.or_false, Int.toNat_natCast] at hnum
  have hln : (putD bad d (numB n)).length ≤ d.length + 5 := by
    have := numB_len5 hn
    unfold putD; split
    · omega
    · rw [List.length_append]; omega
  have hsm : ∀ S', Fr w S S' → xs ≠ [] → P ∈ S' → ablk a ≠ P := fun S' _ hx _ h => hP hx (by rw [h]; exact hW.self)
  have HI := Lib.hid hi
  have HL := Lib.hid hl
  clear hi hl
  go_enter Try.func79, Try.ntmps79
  go_wp2_with (first
    | (go_at_call 67; refine hnum.mono ?_; rintro e w1 ⟨rfl, ⟨S1, hx1, hf1⟩, hk1⟩
       have hraw := raw_any P S1 bad (putD bad d (numB n)) xs a n c w1 hx1 HL.out hc (hrd.keep hk1 (fun h => hP (by intro e; subst e; exact h rfl))) (fun hx => hsm S1 hf1 hx hx1.self) (by omega))
    | (go_at_call 68; refine hraw.mono ?_; rintro e w2 ⟨rfl, ⟨S2, hx2, hf2⟩, hk2⟩)
    | fail)
  go_returns
  refine ⟨rfl, ⟨S2, ?_, hf1.trans hf2 hk1.size⟩, hk1.ofFr hk2 hf1⟩
  have e : putD bad (putD bad d (numB n)) xs = putD bad d (textB xs) := by
    cases bad <;> simp [putD, textB, HL.out]
  rw [← e]; exact hx2

theorem data_bad (P : Nat) (S : List Nat) (d : List UInt8) (w : World) (hW : WrAt w P S true d) :
    Calls Try.prog 100 #[.pointer (some ⟨P, 0, none⟩)] w fun e w' => e = .returned (.tuple #[.slice none 0 0, .int .i64 1]) ∧ w' = w := by
  obtain ⟨code, at', v, hB, hS, h1, rfl, hPv⟩ := hW
  have c0 : w.cell? ⟨P, 0, none⟩ = some (.int .i64 code) := hB.cell (i := 0) rfl
  have h2 : (code == 0) = false := by simpa using h1.symm
  clear h1
  go_enter Try.func100, Try.ntmps100
  go_wp2_with (first | (go_at_call 115; refine (spoilt_any P code _ c0).mono ?_; rintro e w1 ⟨rfl, rfl⟩) | fail)
  go_returns
  exact ⟨rfl, rfl⟩
theorem data_ok (P : Nat) (S : List Nat) (d : List UInt8) (w : World) (hW : WrAt w P S false d) (hd : d.length ≤ 140737488355328) :
    Calls Try.prog 100 #[.pointer (some ⟨P, 0, none⟩)] w fun e w' => ∃ a n c, e = .returned (.tuple #[.slice a n c, .int .i64 0]) ∧ n = d.length ∧ Sl w' 5 1 (.slice a n c) n (bs d) ∧ Fr w [] (blks (.slice a n c)) ∧ Keep [] w w' := by
  obtain ⟨code, at', v, hB, hS, h1, rfl, hPv⟩ := hW
  obtain ⟨va, vc, rfl, hva, hvr, hvc, hvm, hvn⟩ := hS.form
  have c0 : w.cell? ⟨P, 0, none⟩ = some (.int .i64 code) := hB.cell (i := 0) rfl
  have c2 : w.cell? ⟨P, 2, none⟩ = some (.slice va d.length vc) := hB.cell (i := 2) rfl
  have h2 : code = 0 := by simpa using h1.symm
  subst h2
  clear h1
  obtain ⟨n, hn⟩ : ∃ n, d.length = n := ⟨_, rfl⟩
  rw [hn] at c2 hvc hS hd
  have HN := Lib.hid hn
  clear hn
  go_enter Try.func100, Try.ntmps100
  go_wp2_with (first
    | (go_at_call 115; refine (spoilt_any P 0 _ c0).mono ?_; rintro e w1 ⟨rfl, rfl⟩)
    | (at_builtin; go_must (refine wpList_appendN rfl (.const (.slice none 0 0)) (.tmp 15) 22 rfl 5 (.int .u8 0) 1 1 Try.underlying22 info5 rfl (by omega) (.slice none 0 0) 0 [] rfl (Sl.nil _ _ _) va n vc (bs d) rfl (by rw [bs_length, HN.out, Nat.mul_one]) hvn hS.use.2.2.1 (bs_one d) (by simp only [maxLen]; omega) (by omega) ?_; intro a1 c1 w2 hs1 hk1 hf1))
    | fail)
  go_returns
  simp only [Nat.zero_add, List.nil_append] at hs1 hf1
  exact ⟨_, _, _, rfl, HN.out.symm, by simpa using hs1, hf1, hk1⟩

theorem number_nil (v : Value) (w : World) : Calls Try.prog 67 #[.pointer none, v] w fun e w' => e = .returned (.tuple #[]) ∧ w' = w := by
  go_enter Try.func67, Try.ntmps67
  go_wp2_with fail
  go_returns
  exact ⟨rfl, rfl⟩
theorem fixed_nil (v u : Value) (w : World) : Calls Try.prog 66 #[.pointer none, v, u] w fun e w' => e = .returned (.tuple #[]) ∧ w' = w := by
  go_enter Try.func66, Try.ntmps66
  go_wp2_with fail
  go_returns
  exact ⟨rfl, rfl⟩
theorem raw_nil (v : Value) (w : World) : Calls Try.prog 68 #[.pointer none, v] w fun e w' => e = .returned (.tuple #[]) ∧ w' = w := by
  go_enter Try.func68, Try.ntmps68
  go_wp2_with fail
  go_returns
  exact ⟨rfl, rfl⟩
theorem text_nil (a : Option Addr) (n c : Nat) (w : World) : Calls Try.prog 79 #[.pointer none, .slice a n c] w fun e w' => e = .returned (.tuple #[]) ∧ w' = w := by
  go_enter Try.func79, Try.ntmps79
  go_wp2_with (first
    | (go_at_call 67; refine (number_nil _ _).mono ?_; rintro e w1 ⟨rfl, rfl⟩)
    | (go_at_call 68; refine (raw_nil _ _).mono ?_; rintro e w1 ⟨rfl, rfl⟩)
    | fail)
  go_returns
  exact ⟨rfl, rfl⟩
theorem data_nil (w : World) : Calls Try.prog 100 #[.pointer none] w fun e w' => e = .returned (.tuple #[.slice none 0 0, .int .i64 1]) ∧ w' = w := by
  go_enter Try.func100, Try.ntmps100
  go_wp2_with fail
  go_returns
  exact ⟨rfl, rfl⟩
end Go.Proofs.Ytpocegdlobnhaaa.Cod

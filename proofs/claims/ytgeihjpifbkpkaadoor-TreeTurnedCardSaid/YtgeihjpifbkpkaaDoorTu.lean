/- TreeTurned: its walk. -/
import Derived.Test.YtgeihjpifbkpkaaDoorTt
set_option linter.unusedVariables false
set_option linter.unusedSimpArgs false
namespace Go.Proofs.YtgeihjpifbkpkaaDoor
open Go.RowKit

set_option maxRecDepth 100000 in
theorem encode_long (a : Option Addr) (n c : Nat) (w : World) (h : 32 < n) : Calls Tryd.prog 14 #[.slice a n c] w (GiveE w [] 70) := by
  have i1 : (32 : Int) < n := by omega
  go_enter Tryd.func14, Tryd.ntmps14
  go_wp2_with fail
  go_returns
  exact GiveE.none (Keep.refl _ _)
set_option maxRecDepth 100000 in
theorem is_long (a : Option Addr) (n c : Nat) (w : World) (h : 32 < n) : Calls Tryd.prog 23 #[.slice a n c] w fun e w' => e = .returned (.bool false) ∧ Keep [] w w' := by
  have i1 : (32 : Int) < n := by omega
  go_enter Tryd.func23, Tryd.ntmps23
  go_wp2_with fail
  go_returns
  exact ⟨rfl, Keep.refl _ _⟩

set_option maxHeartbeats 2000000 in
set_option maxRecDepth 100000 in
theorem treeTurned_walk (a : Option Addr) (n c : Nat) (l : List Ent) (how at' : Int) (nm : ByteArray) (kd : Int) (w : World) (hx : EsIn w a n c l) (_h1 : (Lit.int .i64 how).wf = true) (_h2 : (Lit.int .i64 at').wf = true) (hn : nm.size ≤ 140737488351232) (_h3 : (Lit.int .i64 kd).wf = true) (hT : Tabs w) :
    Calls Tryd.prog 8 #[.slice a n c, .int .i64 how, .int .i64 at', .string nm, .int .i64 kd] w fun e w' => e = .returned (.bool true) ∧ Keep [] w w' := by
  clear _h1 _h2 _h3
  go_enter Tryd.func8, Tryd.ntmps8
  go_upto_region 3 with (first
    | (go_at_call 10; refine (known_any _ hT).mono ?_; rintro e w1 ⟨rfl, k1⟩)
    | fail)
  have hx1 := hx.keep k1 (by simp)
  go_upto_region 4 with (first
    | (go_at_call 24; refine (turned_any a n c l how at' nm kd _ hx1 (by omega)).mono ?_; rintro e w2 ⟨a2, n2, c2, l2, rfl, hl2, s2, hnm, hnb, F2, k2⟩)
    | fail)
  have k12 := k1.trans' k2
  have HLN := Lib.hid hl2
  by_cases h32 : 32 < n2
  · go_upto_region 5 with (first
      | (go_at_call 14; refine (encode_long a2 n2 c2 _ h32).mono ?_; rintro e w3 ⟨a3, n3, c3, rfl, l3, s3, f3, m3, k3⟩)
      | fail)
    obtain rfl : 0 = n3 := l3
    go_wp2_with (first
      | (go_at_call 23; refine (is_long a2 n2 c2 _ h32).mono ?_; rintro e w4 ⟨rfl, k4⟩)
      | fail)
    go_returns
    exact ⟨rfl, (k12.trans' k3).trans' k4⟩
  · have E2 := esIn_of s2 hl2 (by omega) hnm
    cases hv : isT l2 with
    | false =>
      have EN := Lib.hid (by have := encode_any a2 n2 c2 l2 w2 E2 (hT.keep k12); rwa [show encX l2 = [] by simp [encX, hv], show encC l2 = 70 by simp [encC, hv]] at this : Calls Tryd.prog 14 #[.slice a2 n2 c2] w2 (GiveE w2 [] 70))
      have IS := Lib.hid (fun W k' => by have := is_any a2 n2 c2 l2 W (E2.keep k' (by simp)); rwa [hv] at this : ∀ W, Keep [] w2 W → Calls Tryd.prog 23 #[.slice a2 n2 c2] W fun e w' => e = .returned (.bool false) ∧ Keep [] W w')
      clear hv hl2
      go_upto_region 5 with (first
        | (go_at_call 14; refine EN.out.mono ?_; rintro e w3 ⟨a3, n3, c3, rfl, l3, s3, f3, m3, k3⟩)
        | fail)
      obtain rfl : 0 = n3 := l3
      go_wp2_with (first
        | (go_at_call 23; refine (IS.out _ k3).mono ?_; rintro e w4 ⟨rfl, k4⟩)
        | fail)
      go_returns
      exact ⟨rfl, (k12.trans' k3).trans' k4⟩
    | true =>
      have hb := par_back hv
      have hNle := encTo_len hv l2.length
      rw [encTo_end] at hNle
      have HV := Lib.hid hv
      have EN := Lib.hid (by have := encode_any a2 n2 c2 l2 w2 E2 (hT.keep k12); rwa [show encX l2 = encR l2 by simp [encX, hv], show encC l2 = 0 by simp [encC, hv]] at this : Calls Tryd.prog 14 #[.slice a2 n2 c2] w2 (GiveE w2 (encR l2) 0))
      have IS := Lib.hid (fun W k' => by have := is_any a2 n2 c2 l2 W (E2.keep k' (by simp)); rwa [hv] at this : ∀ W, Keep [] w2 W → Calls Tryd.prog 23 #[.slice a2 n2 c2] W fun e w' => e = .returned (.bool true) ∧ Keep [] W w')
      have P1 := Lib.hid (fun W a' n' c' h0 h1 h2 t => by have := parse_any a' n' c' (encR l2) W h0 h1 h2 (by omega) t; rwa [hb.1, hb.2] at this : ∀ W a' n' c', (encR l2).length = n' → (a' = none → c' = 0) → Rd W a' (bs (encR l2)) → Tabs W → Calls Tryd.prog 19 #[.slice a' n' c'] W (GiveT W l2 0))
      have AL := Lib.hid (fun W a' c' h g => by have := alike_any a' a2 l2.length c' n2 c2 l2 l2 W h g; rwa [decide_eq_true rfl] at this : ∀ W a' c', EsIn W a' l2.length c' l2 → EsIn W a2 n2 c2 l2 → Calls Tryd.prog 21 #[.slice a' l2.length c', .slice a2 n2 c2] W fun e w' => e = .returned (.bool true) ∧ Keep [] W w')
      have HNM := Lib.hid hnm
      clear hv hl2 hb hNle
      obtain ⟨X, hX⟩ : ∃ X, encR l2 = X := ⟨_, rfl⟩
      rw [hX] at EN P1
      clear hX
      go_upto_region 5 with (first
        | (go_at_call 14; refine EN.out.mono ?_; rintro e w3 ⟨a3, n3, c3, rfl, l3, s3, f3, m3, k3⟩)
        | fail)
      go_upto_region 8 with (first
        | (go_at_call 23; refine (IS.out _ k3).mono ?_; rintro e w4 ⟨rfl, k4⟩)
        | fail)
      have k24 := k3.trans' k4
      have k14 := k12.trans' k24
      have s3b := s3.keep k4 (by simp)
      clear s3 f3 EN IS s2
      go_loopw [14] (fun v14 wr => ∃ i : Nat, i ≤ n2 ∧ v14 = .int .i64 (i : Nat) ∧ Keep [] w4 wr) (fun v14 _ => n2 - (intOf v14).toNat)
      case atStart => exact ⟨0, by omega, rfl, Keep.refl _ _⟩
      case round =>
        obtain ⟨i, hi, rfl, kk⟩ := hrel
        by_cases hlt : i < n2
        · obtain ⟨x, b, off, ex, rfl, rx⟩ := (E2.keep (k24.trans' kk) (by simp)).at hlt
          have ok := isT_at HV.out ex
          have i0 : (0 : Int) ≤ i := by omega
          have i1 : (i : Int) < n2 := by omega
          have cn := rangeAt_name rx
          obtain ⟨nm2, hnm2⟩ : ∃ s, x.name = s := ⟨_, rfl⟩
          have hok := ok.nm
          have hsz := ok.sz
          rw [hnm2] at cn hok hsz
          have VA := Lib.hid (by have := valid_any nm2 wr (by omega) (hT.keep (k14.trans' kk)); rwa [hok] at this : Calls Tryd.prog 11 #[.string nm2] wr fun e w' => e = .returned (.bool true) ∧ Keep [] wr w')
          clear hnm2 hok ok ex rx
          go_wp2_with (first
            | (go_at_call 11; refine VA.out.mono ?_; rintro e w5 ⟨rfl, k5⟩)
            | fail)
          exact ⟨⟨i + 1, by omega, by go_num, kk.trans' k5⟩, by simp [intOf]; omega⟩
        · obtain rfl : i = n2 := by omega
          have kw := k14.trans' kk
          have s3c := s3b.keep kk (by simp)
          have hx5 := E2.keep (k24.trans' kk) (by simp)
          go_upto_region 13 with (first
            | (go_at_call 19; refine (P1.out _ _ _ _ l3 (sl_nilcap s3c) s3c.rd (hT.keep kw)).mono ?_; rintro e w6 ⟨a6, c6, rfl, s6, f6, k6⟩)
            | fail)
          have E6 := esIn_of s6 rfl (by have := HLN.out; omega) HNM.out
          have hx6 := hx5.keep k6 (by simp)
          go_wp2_with (first
            | (go_at_call 21; refine (AL.out _ _ _ E6 hx6).mono ?_; rintro e w7 ⟨rfl, k7⟩)
            | fail)
          go_returns
          exact ⟨rfl, (kw.trans' k6).trans' k7⟩
end Go.Proofs.YtgeihjpifbkpkaaDoor

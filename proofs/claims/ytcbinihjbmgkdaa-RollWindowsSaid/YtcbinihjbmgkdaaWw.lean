/- The law RollWindows: its walk. -/
import Derived.Test.YtcbinihjbmgkdaaWn
set_option linter.unusedVariables false
set_option linter.unusedSimpArgs false
namespace Go.Proofs.Ytcbinihjbmgkdaa
open Go.RowKit

/-- What stands from the making of the iterator on. -/
structure WSt (W : World) (a : Option Addr) (l cap : Nat) (size stop : Int) (N : Nat) (qs qd gd pn : Nat) (xs : List UInt8) (w : World) : Prop where
  d : Blk w W.heap.size #[.slice a l cap] 23
  s : Blk w (W.heap.size + 1) #[.int .i64 size] 3
  t : Blk w (W.heap.size + 1 + 1) #[.int .i64 stop] 3
  n : Blk w pn #[.int .i64 N] 3
  win : WinAt w qs qd gd size xs
  keep : Keep [] W w
  lt : qs < w.heap.size ∧ qd < w.heap.size ∧ gd < w.heap.size
theorem WSt.step {W w w' : World} {a : Option Addr} {l cap : Nat} {size stop : Int} {N : Nat} {qs qd gd pn : Nat} {xs : List UInt8} (h : WSt W a l cap size stop N qs qd gd pn xs w) (k : Keep [] w w') : WSt W a l cap size stop N qs qd gd pn xs w' :=
  ⟨h.d.keep k (by simp), h.s.keep k (by simp), h.t.keep k (by simp), h.n.keep k (by simp), h.win.keep k (by simp) (by simp) (by simp), h.keep.trans' k, by have := k.size; have := h.lt; omega⟩

theorem WSt.of {W w4 w5 : World} {a : Option Addr} {l cap : Nat} {size stop : Int} {N : Nat} {qs qd gd pn : Nat} {xs : List UInt8} (h : Blk w4 W.heap.size #[.slice a l cap] 23 ∧ Blk w4 (W.heap.size + 1) #[.int .i64 size] 3 ∧ Blk w4 (W.heap.size + 1 + 1) #[.int .i64 stop] 3 ∧ WinAt w4 qs qd gd size xs ∧ Keep [] W w4 ∧ (qs < w4.heap.size ∧ qd < w4.heap.size ∧ gd < w4.heap.size))
    (k : Keep [] w4 w5) (v : Int) (hv : v = N) (hb : Blk w5 pn #[.int .i64 v] 3) : WSt W a l cap size stop N qs qd gd pn xs w5 := by
  subst hv
  obtain ⟨h1, h2, h3, h4, h5, h6⟩ := h
  exact ⟨h1.keep k (by simp), h2.keep k (by simp), h3.keep k (by simp), hb, h4.keep k (by simp) (by simp) (by simp), h5.trans' k, by have := k.size; omega⟩

theorem winCount_le (n : Nat) (size : Int) : winCount n size ≤ n := by unfold winCount; split <;> omega

theorem win1_go {W wr : World} {a : Option Addr} {l cap : Nat} {size stop : Int} {N : Nat} {qs qd gd pn : Nat} {xs : List UInt8} (hw : WSt W a l cap size stop N qs qd gd pn xs wr) (h : InBytes W a l cap xs) (hN : winCount l size = N)
    (hsw : -9223372036854775808 ≤ size ∧ size ≤ 9223372036854775807) :
    Calls Try.prog 31 #[.func (.func 20) #[] #[.pointer (some ⟨wr.heap.size, 0, none⟩), .pointer (some ⟨pn, 0, none⟩), .pointer (some ⟨W.heap.size, 0, none⟩), .pointer (some ⟨W.heap.size + 1, 0, none⟩), .pointer (some ⟨wr.heap.size + 1, 0, none⟩)], .pointer (some ⟨qs, 0, none⟩), .pointer (some ⟨qd, 0, none⟩)]
      ((wr.alloc (.cells #[.int .i64 0] 3)).alloc (.cells #[.bool true] 4)) fun e w' => e = .returned (.tuple #[]) ∧ Keep [wr.heap.size] ((wr.alloc (.cells #[.int .i64 0] 3)).alloc (.cells #[.bool true] 4)) w' ∧ Blk w' wr.heap.size #[.int .i64 N] 3 := by
  have hkV : Keep [] wr ((wr.alloc (.cells #[.int .i64 0] 3)).alloc (.cells #[.bool true] 4)) := ((Keep.refl _ _).alloc _).alloc _
  have hbV : Blk ((wr.alloc (.cells #[.int .i64 0] 3)).alloc (.cells #[.bool true] 4)) wr.heap.size #[.int .i64 0] 3 := (Blk.new _ _ _).alloc _
  have hV := hw.step hkV
  generalize (wr.alloc (.cells #[.int .i64 0] 3)).alloc (.cells #[.bool true] 4) = V at *
  have h1 := hw.d.lt
  have h2 := hw.s.lt
  have h3 := hw.n.lt
  have h4 := hw.lt
  have hlx := h.hlen
  have hle := h.hle
  have hreach := h.reach
  have hbl := hbV.lt
  have hi := h.keep hV.keep (by simp)
  have hNl : N ≤ l := hN ▸ winCount_le l size
  refine (windows_go 20 _ qs qd gd size xs V [wr.heap.size] (fun j w' => Blk w' wr.heap.size #[.int .i64 (j : Nat)] 3) (fun _ => False) call20 hV.win hV.lt hsw (by simp; omega) (by simp; omega) hbV ?_ ?_).mono ?_
  · rintro j w1 w2 a1 hkk
    rcases hkk with hkk | ⟨sb, hsb, hkk⟩
    · exact a1.keep hkk (by simp)
    · exact a1.keep hkk (by simp; omega)
  · rintro j w1 hs1 hs2 hs3 hkk a1
    obtain ⟨n, rfl⟩ : ∃ n : Nat, size = n := ⟨size.toNat, by omega⟩
    simp only [Int.toNat_natCast] at hs2
    obtain ⟨b, off, rfl, hr⟩ := hi.rd.window (k := j) (n := n) (by omega) hs2
    have hbV : b < W.heap.size := h.rd.lt (k := 0) (by simp only [bs_length]; omega)
    have hr1 := hr.keep hkk (fun _ => by simp [ablk]; omega)
    rw [hlx, hN] at hs3
    refine (win1_any b off l cap wr.heap.size pn W.heap.size (W.heap.size + 1) (wr.heap.size + 1) n N j (window xs n j) w1 a1 (hV.n.keep hkk (by simp; omega)) (hV.d.keep hkk (by simp; omega)) (hV.s.keep hkk (by simp; omega)) hr1 (window_len (by omega)) hle (by omega) (by omega) (by omega) hs3 (by omega)).mono ?_
    rintro e w2 ⟨rfl, b1, b2⟩
    exact ⟨true, rfl, b2, fun _ => b1, fun hb => by cases hb⟩
  · rintro e w2 ⟨rfl, b1, b2⟩
    refine ⟨rfl, b1, ?_⟩
    rw [hlx, hN] at b2
    exact b2.resolve_right (fun h => h)

theorem win2_go {W wr : World} {a : Option Addr} {l cap : Nat} {size stop : Int} {N : Nat} {qs qd gd pn : Nat} {xs : List UInt8} (hw : WSt W a l cap size stop N qs qd gd pn xs wr) (h : InBytes W a l cap xs) (hN : winCount l size = N)
    (hsw : -9223372036854775808 ≤ size ∧ size ≤ 9223372036854775807) (hl5 : l ≤ 100000) :
    Calls Try.prog 31 #[.func (.func 21) #[] #[.pointer (some ⟨wr.heap.size, 0, none⟩), .pointer (some ⟨W.heap.size + 1 + 1, 0, none⟩), .pointer (some ⟨wr.heap.size + 1, 0, none⟩)], .pointer (some ⟨qs, 0, none⟩), .pointer (some ⟨qd, 0, none⟩)]
      ((wr.alloc (.cells #[.int .i64 0] 3)).alloc (.cells #[.bool false] 4)) fun e w' => e = .returned (.tuple #[]) ∧ Keep [] wr w' ∧ Blk w' (wr.heap.size + 1) #[.bool false] 4 ∧ ∃ v : Nat, Blk w' wr.heap.size #[.int .i64 v] 3 ∧
        ((0 ≤ stop ∧ stop < N ∧ (v : Int) = stop + 1) ∨ ((stop < 0 ∨ (N : Int) ≤ stop) ∧ v = N)) := by
  have hkV : Keep [] wr ((wr.alloc (.cells #[.int .i64 0] 3)).alloc (.cells #[.bool false] 4)) := ((Keep.refl _ _).alloc _).alloc _
  have hbV : Blk ((wr.alloc (.cells #[.int .i64 0] 3)).alloc (.cells #[.bool false] 4)) wr.heap.size #[.int .i64 0] 3 := (Blk.new _ _ _).alloc _
  have hoV : Blk ((wr.alloc (.cells #[.int .i64 0] 3)).alloc (.cells #[.bool false] 4)) (wr.heap.size + 1) #[.bool false] 4 := Blk.new' _ _ _ (by simp)
  have hV := hw.step hkV
  generalize (wr.alloc (.cells #[.int .i64 0] 3)).alloc (.cells #[.bool false] 4) = V at *
  have h2 := hw.t.lt
  have h4 := hw.lt
  have hlx := h.hlen
  have hbl := hbV.lt
  have hol := hoV.lt
  have hNl : N ≤ l := hN ▸ winCount_le l size
  refine (windows_go 21 _ qs qd gd size xs V [wr.heap.size, wr.heap.size + 1] (fun j w' => Blk w' wr.heap.size #[.int .i64 (j : Nat)] 3 ∧ Blk w' (wr.heap.size + 1) #[.bool false] 4 ∧ (stop < 0 ∨ (j : Int) ≤ stop))
    (fun w' => Blk w' (wr.heap.size + 1) #[.bool false] 4 ∧ ∃ v : Nat, Blk w' wr.heap.size #[.int .i64 v] 3 ∧ 0 ≤ stop ∧ stop < N ∧ (v : Int) = stop + 1) call21 hV.win hV.lt hsw (by simp; omega) (by simp; omega) ⟨hbV, hoV, by omega⟩ ?_ ?_).mono ?_
  · rintro j w1 w2 ⟨a1, a2, a3⟩ hkk
    rcases hkk with hkk | ⟨sb, hsb, hkk⟩
    · exact ⟨a1.keep hkk (by simp), a2.keep hkk (by simp), a3⟩
    · exact ⟨a1.keep hkk (by simp; omega), a2.keep hkk (by simp; omega), a3⟩
  · rintro j w1 hs1 hs2 hs3 hkk ⟨a1, a2, a3⟩
    rw [hlx, hN] at hs3
    refine (win2_any wr.heap.size (W.heap.size + 1 + 1) (wr.heap.size + 1) _ _ stop j w1 a1 (hV.t.keep hkk (by simp; omega)) a2 (by omega) (by omega) a3).mono ?_
    rintro e w2 ⟨rfl, b1, b2, b3⟩
    refine ⟨_, rfl, b3, fun hb => ⟨b1, b2, ?_⟩, fun hb => ⟨b2, j + 1, b1, ?_⟩⟩
    · have := of_decide_eq_true hb; omega
    · have := of_decide_eq_false hb; omega
  · rintro e w2 ⟨rfl, b1, b2⟩
    rw [hlx, hN] at b2
    have hk2 : Keep [] wr w2 := hkV.trans b1 (by simp)
    rcases b2 with ⟨a1, a2, a3⟩ | ⟨a1, v, a2, a3⟩
    · exact ⟨rfl, hk2, a2, N, a1, Or.inr ⟨a3, rfl⟩⟩
    · exact ⟨rfl, hk2, a1, v, a2, Or.inl a3⟩

theorem i64_bounds {n : Int} (h : (Lit.int .i64 n).wf = true) : -9223372036854775808 ≤ n ∧ n ≤ 9223372036854775807 := by
  have h2 := h
  simp [Lit.wf, IntKind.min, IntKind.max, IntKind.signed, IntKind.bits] at h2
  exact h2

set_option maxHeartbeats 4000000 in
set_option maxRecDepth 100000 in
theorem rollWindows_walk (a : Option Addr) (l cap : Nat) (xs : List UInt8) (size stop : Int) (W : World) (h : InBytes W a l cap xs) (hs0 : (Lit.int .i64 size).wf = true) (ht0 : (Lit.int .i64 stop).wf = true) :
    Calls Try.prog 6 #[.slice a l cap, .int .i64 size, .int .i64 stop] W fun e w' => e = .returned (.bool true) ∧ Keep [] W w' := by
  have hle := h.hle
  have hreach := h.reach
  have HL := Lib.hid h.hlen
  have hsw : -9223372036854775808 ≤ size ∧ size ≤ 9223372036854775807 := i64_bounds hs0
  have htw : -9223372036854775808 ≤ stop ∧ stop ≤ 9223372036854775807 := i64_bounds ht0
  clear hs0 ht0
  by_cases hb1 : 100000 < l
  · have d1 : decide ((100000 : Int) < l) = true := decide_eq_true (by omega)
    go_enter Try.func6, Try.ntmps6
    go_wp2
    go_returns
    exact ⟨rfl, by repeat (first | exact Keep.refl _ _ | refine Keep.alloc ?_ _)⟩
  have d1 : decide ((100000 : Int) < l) = false := decide_eq_false (by omega)
  have hmf : ∀ (fn : Fn) (first cap : Array Value) (w : World), (Instr.makeFunc fn first cap).run Try.prog w = .ok (.func fn first cap) w := fun _ _ _ _ => rfl
  have hfe := eql_func
  have c31 := call31
  by_cases hgo : 0 < size ∧ size ≤ l ∧ 3000000 < ((l : Int) - size + 1) * size
  · obtain ⟨g1, g2, g3⟩ := hgo
    have e1 : decide ((0 : Int) < size) = true := decide_eq_true g1
    have e2 : decide (size ≤ (l : Int)) = true := decide_eq_true g2
    have hp : ((l : Int) - size + 1) * size ≤ 100000 * 100000 := Int.mul_le_mul (by omega) (by omega) (by omega) (by omega)
    have q0 : IntKind.i64.wrap ((l : Int) - size) = (l : Int) - size := IntWalk.i64_in _ (by omega)
    have q1 : IntKind.i64.wrap ((l : Int) - size + 1) = (l : Int) - size + 1 := IntWalk.i64_in _ (by omega)
    obtain ⟨pr, hpr⟩ : ∃ pr : Int, ((l : Int) - size + 1) * size = pr := ⟨_, rfl⟩
    have q2 : IntKind.i64.wrap (((l : Int) - size + 1) * size) = pr := by rw [hpr]; exact IntWalk.i64_in _ (by omega)
    have q3 : wrap64 (((l : Int) - size + 1) * size) = pr := by rw [hpr]; exact IntWalk.wrap64_in _ (by omega)
    rw [hpr] at hp g3
    clear hpr
    have e3 : decide ((3000000 : Int) < pr) = true := decide_eq_true g3
    go_enter Try.func6, Try.ntmps6
    go_wp2
    go_returns
    exact ⟨rfl, by repeat (first | exact Keep.refl _ _ | refine Keep.alloc ?_ _)⟩
  go_enter Try.func6, Try.ntmps6
  go_upto_region 1 with fail
  go_cut [37] (fun v wc => v = .bool false ∧ wc = ((W.alloc (.cells #[.slice a l cap] 23)).alloc (.cells #[.int .i64 size] 3)).alloc (.cells #[.int .i64 stop] 3))
  case first =>
    by_cases g1 : 0 < size
    · have e1 : decide ((0 : Int) < size) = true := decide_eq_true g1
      by_cases g2 : size ≤ l
      · have e2 : decide (size ≤ (l : Int)) = true := decide_eq_true g2
        have hp : ((l : Int) - size + 1) * size ≤ 3000000 := by
          have : ¬ (3000000 < ((l : Int) - size + 1) * size) := fun hx => hgo ⟨g1, g2, hx⟩
          omega
        have hp2 : 0 ≤ ((l : Int) - size + 1) * size := Int.mul_nonneg (by omega) (by omega)
        have q0 : IntKind.i64.wrap ((l : Int) - size) = (l : Int) - size := IntWalk.i64_in _ (by omega)
        have q1 : IntKind.i64.wrap ((l : Int) - size + 1) = (l : Int) - size + 1 := IntWalk.i64_in _ (by omega)
        obtain ⟨pr, hpr⟩ : ∃ pr : Int, ((l : Int) - size + 1) * size = pr := ⟨_, rfl⟩
        have q2 : IntKind.i64.wrap (((l : Int) - size + 1) * size) = pr := by rw [hpr]; exact IntWalk.i64_in _ (by omega)
        have q3 : wrap64 (((l : Int) - size + 1) * size) = pr := by rw [hpr]; exact IntWalk.wrap64_in _ (by omega)
        clear hgo
        rw [hpr] at hp hp2
        clear hpr
        have e3 : decide ((3000000 : Int) < pr) = false := decide_eq_false (by omega)
        go_wp2
        go_meet
        case rel => exact ⟨rfl, rfl⟩
      · have e2 : decide (size ≤ (l : Int)) = false := decide_eq_false g2
        clear hgo
        go_wp2
        go_meet
        case rel => exact ⟨rfl, rfl⟩
    · have e1 : decide ((0 : Int) < size) = false := decide_eq_false g1
      clear hgo
      go_wp2
      go_meet
      case rel => exact ⟨rfl, rfl⟩
  case rest =>
    obtain ⟨rfl, rfl⟩ := hcut
    clear hgo
    have hfd := Lib.hid (h.far (d := W.heap.size + 1 + 1 + 1) (by omega))
    have hk3 : Keep [] W (((W.alloc (.cells #[.slice a l cap] 23)).alloc (.cells #[.int .i64 size] 3)).alloc (.cells #[.int .i64 stop] 3)) := by repeat (first | exact Keep.refl _ _ | refine Keep.alloc ?_ _)
    have b0 : Blk (((W.alloc (.cells #[.slice a l cap] 23)).alloc (.cells #[.int .i64 size] 3)).alloc (.cells #[.int .i64 stop] 3)) W.heap.size #[.slice a l cap] 23 := ((Blk.new _ _ _).alloc _).alloc _
    have b1 : Blk (((W.alloc (.cells #[.slice a l cap] 23)).alloc (.cells #[.int .i64 size] 3)).alloc (.cells #[.int .i64 stop] 3)) (W.heap.size + 1) #[.int .i64 size] 3 := (Blk.new' _ _ _ (by simp)).alloc _
    have b2 : Blk (((W.alloc (.cells #[.slice a l cap] 23)).alloc (.cells #[.int .i64 size] 3)).alloc (.cells #[.int .i64 stop] 3)) (W.heap.size + 1 + 1) #[.int .i64 stop] 3 := Blk.new' _ _ _ (by simp)
    have hs3 : (((W.alloc (.cells #[.slice a l cap] 23)).alloc (.cells #[.int .i64 size] 3)).alloc (.cells #[.int .i64 stop] 3)).heap.size = W.heap.size + 1 + 1 + 1 := by simp
    generalize hW3 : (((W.alloc (.cells #[.slice a l cap] 23)).alloc (.cells #[.int .i64 size] 3)).alloc (.cells #[.int .i64 stop] 3)) = W3 at *
    have HW3 := Lib.hid hW3
    clear hW3
    have HS3 := Lib.hid hs3
    clear hs3
    have hD : DeskAt (W3.alloc (.cells #[.slice none 0 0] 26)) W3.heap.size W3.heap.size 0 [] := ⟨rfl, by simp, Or.inl ⟨Blk.new _ _ _, rfl, rfl⟩⟩
    have k4 : Keep [] W3 (W3.alloc (.cells #[.slice none 0 0] 26)) := (Keep.refl _ _).alloc _
    have c0 := (b0.keep k4 (by simp)).cell (i := 0) rfl
    have c1 := (b1.keep k4 (by simp)).cell (i := 0) rfl
    go_wp2_with fail
    have hrd4 := (h.rd.keep hk3 (by simp)).keep (k4.drew) (by simp)
    have hD4 := hD.keep (Keep.refl _ _).drew
    have HF : Hid (xs ≠ [] → ablk a ≠ W3.heap.size ∧ ablk a ≠ W3.heap.size) := by
      show _ → _
      intro hx; have := hfd.out hx; rw [← HS3.out] at this; exact ⟨this, this⟩
    have K4 := Lib.hid k4
    have HK3 := Lib.hid hk3
    clear hD hk3 k4
    go_region_held3 (fun w' => w'.cell? ⟨W.heap.size, 0, none⟩ = some (.slice a l cap) ∧ w'.cell? ⟨W.heap.size + 1, 0, none⟩ = some (.int .i64 size)) ((first | (constructor <;> assumption) | go_simp)) ((first
      | (go_at_call 12; go_must (refine (lay_n W3.heap.size W3.heap.size 0 [] a l cap xs _ HL.out (by omega) (by omega) hD4 hrd4 HF.out).mono ?_); go_must (rintro e w1 ⟨g1, n1, rfl, hd1, hn1, hn1', hk1, hg1, hgd1⟩; have hrd1 := hd1.rd hgd1; have c0' := hk1.cell (v := .slice a l cap) (a := ⟨W.heap.size, 0, none⟩) c0 (by have := HS3.out; simp; omega); have c1' := hk1.cell (v := .int .i64 size) (a := ⟨W.heap.size + 1, 0, none⟩) c1 (by have := HS3.out; simp; omega)))
      | (go_at_call 19; go_must (refine (windowsMake_any _ l n1 size xs _ HL.out (by omega) hrd1 (by simp)).mono ?_); go_must (rintro e w2 ⟨qs, qd, gd, rfl, hat, q1, q2, q3, hlt, hk2⟩; have c0'' := hk2.cell c0' (by simp); have c1'' := hk2.cell c1' (by simp)))))
    have hs4 : W3.heap.size ≤ (W3.alloc (.cells #[.slice none 0 0] 26)).heap.size := K4.out.size
    have hkd : Keep [W3.heap.size, W3.heap.size] W3 w1 := (K4.out.drew.mono (by simp)).trans hk1 (by simp)
    have hk12 : Keep [] W3 w2 := (hkd.mono (T := []) (by simp)).trans' hk2
    have hgl1 := hd1.glt hgd1
    have hdl1 := hd1.lt
    have hd2 := hd1.keep hk2
    have hkW2 := HK3.out.trans' hk12
    have hi2 := h.keep hkW2 (by simp)
    have hsW2 := hkW2.size
    have hg1' : W3.heap.size < g1 := by
      rcases hg1 with e | e
      · exact absurd e hgd1
      · have e2 : W3.heap.size + 1 ≤ g1 := by simpa using e
        omega
    have hgW : W.heap.size ≤ g1 := by have := HS3.out; omega
    clear hrd4 hrd1 hD4 c0 c1 c0' c1' hkd
    go_wp2_with fail
    refine (lies_n W3.heap.size g1 n1 a l cap xs _ HL.out hn1' (by omega) hd2 hi2.rd).mono ?_
    rintro e w3 ⟨rfl, m, rfl⟩
    have hd3 : DeskAt (w2.drewN m) W3.heap.size g1 n1 (laid xs n1) := hd2.keep (Keep.refl _ _).drewN
    go_wp2_with fail
    refine (lay_n W3.heap.size g1 n1 _ none 0 0 [] _ rfl (by omega) hn1' hd3 (Or.inl rfl) (by simp)).mono ?_
    rintro e w4 ⟨g2, n2, rfl, hd4, hn4, hn4', hk4, hg4, hgd4⟩
    have hs2 := hk2.size
    have hk24 : Keep [W3.heap.size, g1] w2 w4 := ((Keep.refl [] w2).drewN (n := m)).mono (T := [W3.heap.size, g1]) (by simp) |>.trans hk4 (by simp)
    have hS4 : ∀ pn N, Blk w4 pn #[.int .i64 N] 3 → WSt W a l cap size stop 0 qs qd gd pn xs w4 ∨ True := fun _ _ _ => Or.inr trivial
    have e0 := HS3.out
    have hatw : WinAt w4 qs qd gd size xs := hat.keep hk24 (by simp; omega) (by simp; omega) (by simp; omega)
    have hkW4 : Keep [] W w4 := hkW2.trans hk24 (by simp; omega)
    have b04 := (b0.keep hk12 (by simp)).keep hk24 (by simp; omega)
    have b14 := (b1.keep hk12 (by simp)).keep hk24 (by simp; omega)
    have b24 := (b2.keep hk12 (by simp)).keep hk24 (by simp; omega)
    have hlt4 : qs < w4.heap.size ∧ qd < w4.heap.size ∧ gd < w4.heap.size := by have := hk24.size; omega
    have hW4 := Lib.hid (And.intro b04 (And.intro b14 (And.intro b24 (And.intro hatw (And.intro hkW4 hlt4)))))
    have c0 := (b04.alloc (.cells #[.int .i64 0] 3)).cell (i := 0) rfl
    have c1 := (b14.alloc (.cells #[.int .i64 0] 3)).cell (i := 0) rfl
    clear hS4 e0 hatw hkW4 b04 b14 b24 hlt4 hd4 hk4 hk24 hd3 hd2 hd1 hk1 hat q1 q2 q3 hlt hk2 hk12 hkW2 hi2 b0 b1 b2 c0'' c1'' hg4 hgd4 hg1 hgd1
    go_upto_region 9 with fail
    go_cut [62] (fun v wc => v = .bool (decide (1 ≤ size ∧ size ≤ l)) ∧ wc = w4.alloc (.cells #[.int .i64 0] 3))
    case first =>
      by_cases g1 : 1 ≤ size
      · have e1 : decide ((1 : Int) ≤ size) = true := decide_eq_true g1
        by_cases g2 : size ≤ l
        · have e2 : decide (size ≤ (l : Int)) = true := decide_eq_true g2
          go_wp2
          go_meet
          case rel => exact ⟨by simp [g1, g2], rfl⟩
        · have e2 : decide (size ≤ (l : Int)) = false := decide_eq_false g2
          go_wp2
          go_meet
          case rel => exact ⟨by simp [g1, g2], rfl⟩
      · have e1 : decide ((1 : Int) ≤ size) = false := decide_eq_false g1
        go_wp2
        go_meet
        case rel => exact ⟨by simp; omega, rfl⟩
    case rest =>
      obtain ⟨rfl, rfl⟩ := hcut
      generalize hbb : decide (1 ≤ size ∧ size ≤ (l : Int)) = bb
      have HBB := Lib.hid hbb
      clear hbb
      go_upto_if 62 with fail
      go_cut [6] (fun v wc => v = .bool false ∧ WSt W a l cap size stop (winCount l size) qs qd gd w4.heap.size xs wc)
      case first =>
        cases bb with
        | true =>
          have hin := of_decide_eq_true HBB.out
          have q0 : IntKind.i64.wrap ((l : Int) - size) = (l : Int) - size := IntWalk.i64_in _ (by omega)
          have q1 : IntKind.i64.wrap ((l : Int) - size + 1) = (l : Int) - size + 1 := IntWalk.i64_in _ (by omega)
          have hbn : Blk (w4.alloc (.cells #[.int .i64 0] 3)) w4.heap.size #[.int .i64 0] 3 := Blk.new _ _ _
          have f0 := hbn.free (i := 0)
          clear hbn
          go_wp2
          go_meet
          case rel =>
            refine ⟨rfl, WSt.of hW4.out ?_ ((l : Int) - size + 1) (by unfold winCount; rw [if_pos hin]; omega) ?_⟩
            · exact (Keep.refl _ _).alloc _
            · exact Blk.new _ _ _
        | false =>
          have hin := of_decide_eq_false HBB.out
          go_wp2
          go_meet
          case rel =>
            refine ⟨rfl, WSt.of hW4.out ((Keep.refl _ _).alloc _) 0 (by unfold winCount; rw [if_neg hin]; rfl) (Blk.new _ _ _)⟩
      case rest =>
        obtain ⟨rfl, hst⟩ := hcut
        have hST := Lib.hid hst
        obtain ⟨N, hN⟩ : ∃ N, winCount l size = N := ⟨_, rfl⟩
        rw [hN] at hst
        have hNl : N ≤ l := hN ▸ winCount_le l size
        have HN := Lib.hid hN
        have HST := Lib.hid hst
        clear hN hst hST HBB hW4 c0 c1
        go_wp2
        go_loopw [10] (fun i wr => ∃ k : Nat, k ≤ 2 ∧ i = .int .i64 k ∧ Keep [] wc wr) (fun i _ => 2 - (intOf i).toNat)
        case atStart => exact ⟨0, by omega, rfl, Keep.refl _ _⟩
        case round =>
          obtain ⟨k, hk, rfl, hkr⟩ := hrel
          have hwr := HST.out.step hkr
          by_cases hlt : k < 2
          · have g := Lib.hid (win1_go hwr h HN.out hsw)
            have hkV : Keep [] wr ((wr.alloc (.cells #[.int .i64 0] 3)).alloc (.cells #[.bool true] 4)) := ((Keep.refl _ _).alloc _).alloc _
            have hoV : Hid (Blk ((wr.alloc (.cells #[.int .i64 0] 3)).alloc (.cells #[.bool true] 4)) (wr.heap.size + 1) #[.bool true] 4) := by
              show Blk _ _ _ _
              exact Blk.new' _ _ _ (by simp)
            go_wp2_with fail
            refine g.out.mono ?_
            rintro e w6 ⟨rfl, hk6, hb6⟩
            have hk6' : Keep [] wr w6 := hkV.trans hk6 (by simp)
            have c0 := hb6.cell (i := 0) rfl
            have c1 := (hwr.n.keep hk6' (by simp)).cell (i := 0) rfl
            have c2 := (hoV.out.keep hk6 (by simp)).cell (i := 0) rfl
            go_wp2
            exact ⟨⟨k + 1, by omega, by go_num, hkr.trans' hk6'⟩, by simp [intOf]; omega⟩
          · have g := Lib.hid (win2_go hwr h HN.out hsw (by omega))
            go_wp2_with fail
            refine g.out.mono ?_
            rintro e w6 ⟨rfl, hk6, hb6, v, hb7, hv⟩
            have hw6 := hwr.step hk6
            have c0 := hb6.cell (i := 0) rfl
            have c1 := hb7.cell (i := 0) rfl
            have c2 := hw6.n.cell (i := 0) rfl
            have c3 := hw6.t.cell (i := 0) rfl
            have c4 := hw6.d.cell (i := 0) rfl
            have c5 := hw6.s.cell (i := 0) rfl
            have HW6 := Lib.hid hw6
            have gn := Lib.hid (nested_any a l cap xs size N qs qd gd w6 (h.keep hw6.keep (by simp)) hw6.win hw6.lt hsw (by rw [h.hlen]; exact HN.out))
            clear hw6 hwr
            rcases hv with ⟨v1, v2, v3⟩ | ⟨v1, rfl⟩
            · have t1 : decide ((0 : Int) ≤ stop) = true := decide_eq_true v1
              have t2 : decide (stop < (N : Int)) = true := decide_eq_true v2
              have t3 : ((v : Int) == stop + 1) = true := by rw [beq_iff_eq]; exact v3
              have t4 : ((v : Int) != stop + 1) = false := by rw [bne, t3]; rfl
              have t5 : decide (stop < (0 : Int)) = false := decide_eq_false (by omega)
              have t6 : decide ((N : Int) ≤ stop) = false := decide_eq_false (by omega)
              have q0 : IntKind.i64.wrap (stop + 1) = stop + 1 := IntWalk.i64_in _ (by omega)
              clear v3
              go_wp2_with fail
              refine gn.out.mono ?_
              rintro e w7 ⟨rfl, hk7⟩
              go_wp2_with fail
              refine (known_any w7).mono ?_
              rintro e w8 ⟨rfl, hk8⟩
              go_wp2
              go_returns
              exact ⟨rfl, (HW6.out.keep.trans' hk7).trans' hk8⟩
            · by_cases hneg : stop < 0
              · have t1 : decide ((0 : Int) ≤ stop) = false := decide_eq_false (by omega)
                have t5 : decide (stop < (0 : Int)) = true := decide_eq_true hneg
                go_wp2_with fail
                refine gn.out.mono ?_
                rintro e w7 ⟨rfl, hk7⟩
                go_wp2_with fail
                refine (known_any w7).mono ?_
                rintro e w8 ⟨rfl, hk8⟩
                go_wp2
                go_returns
                exact ⟨rfl, (HW6.out.keep.trans' hk7).trans' hk8⟩
              · have v2 : (v : Int) ≤ stop := by omega
                have t1 : decide ((0 : Int) ≤ stop) = true := decide_eq_true (by omega)
                have t2 : decide (stop < (v : Int)) = false := decide_eq_false (by omega)
                have t5 : decide (stop < (0 : Int)) = false := decide_eq_false (by omega)
                have t6 : decide ((v : Int) ≤ stop) = true := decide_eq_true (by omega)
                go_wp2_with fail
                refine gn.out.mono ?_
                rintro e w7 ⟨rfl, hk7⟩
                go_wp2_with fail
                refine (known_any w7).mono ?_
                rintro e w8 ⟨rfl, hk8⟩
                go_wp2
                go_returns
                exact ⟨rfl, (HW6.out.keep.trans' hk7).trans' hk8⟩
end Go.Proofs.Ytcbinihjbmgkdaa

/- TreeOnly: its walk. -/
import Derived.Test.YtgeihjpifbkpkaaDoorTp
import Derived.Test.YtgeihjpifbkpkaaDoorRt
set_option linter.unusedVariables false
set_option linter.unusedSimpArgs false
namespace Go.Proofs.YtgeihjpifbkpkaaDoor
open Go.RowKit

set_option maxHeartbeats 2000000 in
set_option maxRecDepth 100000 in
theorem treeOnly_walk (a : Option Addr) (n c : Nat) (d : List UInt8) (w : World) (hx : InBytes w a n c d) (hT : Tabs w) :
    Calls Tryd.prog 7 #[.slice a n c] w fun e w' => e = .returned (.bool true) ∧ Keep [] w w' := by
  have hl := hx.hlen
  have hn : n ≤ 140737488351232 := by have := hx.hle; have := hx.reach; omega
  have EI := fun W a c s => esIn_par (w := W) (a := a) (c := c) (d := d) s
  have E1 := fun W t r => parse_any a n c d W hl hx.hnil r (by omega) t
  have hr := par_refused (d := d)
  have ht := par_taken (d := d)
  obtain ⟨l, hpl⟩ : ∃ l, parT d = l := ⟨_, rfl⟩
  obtain ⟨z, hz⟩ : ∃ z, parC d = z := ⟨_, rfl⟩
  rw [hpl, hz] at ht
  rw [hpl, hz] at hr
  simp only [hpl, hz] at EI E1
  have EI := Lib.hid EI
  have E1 := Lib.hid E1
  by_cases h0 : z = 0
  · obtain ⟨hiT, hen⟩ := ht h0
    have EN := Lib.hid (fun W a c h t => by have := encode_any a l.length c l W h t; rwa [show encX l = d by unfold encX; rw [if_pos hiT]; exact hen, show encC l = 0 by unfold encC; rw [if_pos hiT]] at this : ∀ W a c, EsIn W a l.length c l → Tabs W → Calls Tryd.prog 14 #[.slice a l.length c] W (GiveE W d 0))
    have SM := Lib.hid (fun W a n' c' b m d' h1 r1 h2 r2 hs => by have := same_any a b n' c' m d' d d W h1 r1 h2 r2 hs; rwa [decide_eq_true rfl] at this : ∀ W a n' c' b m d', d.length = n' → Rd W a (bs d) → d.length = m → Rd W b (bs d) → n' ≤ 140737488355328 → Calls Tryd.prog 16 #[.slice a n' c', .slice b m d'] W fun e w' => e = .returned (.bool true) ∧ Keep [] W w')
    have HL := Lib.hid hl
    subst h0
    clear hpl hz hr ht hiT hen hl
    go_enter Tryd.func7, Tryd.ntmps7
    go_upto_region 3 with (first
      | (go_at_call 10; refine (known_any _ hT).mono ?_; rintro e w1 ⟨rfl, k1⟩)
      | fail)
    go_upto_region 4 with (first
      | (go_at_call 19; refine (E1.out _ (hT.keep k1) (hx.rd.keep k1 (by simp))).mono ?_; rintro e w2 ⟨a2, c2, rfl, s2, f2, k2⟩)
      | fail)
    have k12 := k1.trans' k2
    have hE := EI.out _ _ _ s2
    go_upto_region 7 with (first
      | (go_at_call 14; refine (EN.out _ _ _ hE (hT.keep k12)).mono ?_; rintro e w3 ⟨a3, n3, c3, rfl, l3, s3, f3, m3, k3⟩)
      | fail)
    have k13 := k12.trans' k3
    have r3 := hx.rd.keep k13 (by simp)
    go_wp2_with (first
      | (go_at_call 16; refine (SM.out _ _ _ _ _ _ _ l3 s3.rd HL.out r3 (by omega)).mono ?_; rintro e w4 ⟨rfl, k4⟩)
      | fail)
    go_returns
    exact ⟨rfl, k13.trans' k4⟩
  · obtain rfl := hr h0
    have i0 : (z == 0) = false := by simpa using h0
    clear hpl hz hr ht hl
    go_enter Tryd.func7, Tryd.ntmps7
    go_upto_region 3 with (first
      | (go_at_call 10; refine (known_any _ hT).mono ?_; rintro e w1 ⟨rfl, k1⟩)
      | fail)
    go_wp2_with (first
      | (go_at_call 19; refine (E1.out _ (hT.keep k1) (hx.rd.keep k1 (by simp))).mono ?_; rintro e w2 ⟨a2, c2, rfl, s2, f2, k2⟩)
      | fail)
    go_returns
    exact ⟨rfl, k1.trans' k2⟩
end Go.Proofs.YtgeihjpifbkpkaaDoor

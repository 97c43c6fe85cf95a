/- The function that RollAlong ranges with. -/
import Derived.Test.YtcbinihjbmgkdaaWi
import Derived.Test.YtcbinihjbmgkdaaSl
import Derived.Deep.RegionLaw
set_option linter.unusedVariables false
set_option linter.unusedSimpArgs false
namespace Go.Proofs.Ytcbinihjbmgkdaa
open Go.RowKit

theorem Try.info3 : (Try.prog.info? 3).map (fun i => (i.zero, i.size, i.bytes)) = some (some (.int .i64 0), 1, 8) := by kernel_rfl

set_option maxHeartbeats 2000000 in
set_option maxRecDepth 100000 in
theorem along_any (b off l cap : Nat) (po pu pr ps pd r g : Nat) (n k : Nat) (x : UInt8) (rest : List UInt8) (v : Value) (vs : List Value) (w : World)
    (ho : Blk w po #[.bool true] 4) (hu : Blk w pu #[v] 50) (hsl : Sl w 3 1 v k vs) (hr : Blk w pr #[.pointer (some ⟨r, 0, none⟩)] 32) (hroll : RollAt w r g (x :: rest))
    (hs : Blk w ps #[.int .i64 n] 3) (hd : Blk w pd #[.slice (some ⟨b, off, none⟩) l cap] 23)
    (hne : po ≠ pu ∧ po ≠ r ∧ po ≠ g ∧ pu ≠ r ∧ pu ≠ g) (hq : ps ∉ [po, pu, r, g] ∧ pd ∉ [po, pu, r, g] ∧ pr ∉ [po, pu, r, g] ∧ b ∉ [po, pu, r, g])
    (hbl : ∀ c ∈ blks v, c ∉ [po, pu, r, g, ps, pd, pr, b]) (hl : l ≤ 20000) (hle : l ≤ cap) (hcap : cap ≤ 9223372036854775807) (h1 : 1 ≤ n) (hk : k + n ≤ l)
    (y : UInt8) (hy : k + n < l → w.cell? ⟨b, off + (k + n), none⟩ = some (B8 y)) :
    Calls Try.prog 23 #[.int .i64 k, .int .i64 (sumOf (x :: rest)), .pointer (some ⟨po, 0, none⟩), .pointer (some ⟨pu, 0, none⟩), .pointer (some ⟨pr, 0, none⟩), .pointer (some ⟨ps, 0, none⟩), .pointer (some ⟨pd, 0, none⟩)] w
      fun e w' => e = .returned (.bool true) ∧ Blk w' po #[.bool true] 4 ∧ (∃ v', Blk w' pu #[v'] 50 ∧ Sl w' 3 1 v' (k + 1) (vs ++ [.int .i64 (sumOf (x :: rest))]) ∧ (blks v' = blks v ∨ ∀ c ∈ blks v', w.heap.size ≤ c)) ∧
        (k + n < l → RollAt w' r g (rest ++ [y])) ∧ Keep ([po, pu, r, g] ++ blks v) w w' := by
  have c0 := ho.cell (i := 0) rfl
  have c1 := hu.cell (i := 0) rfl
  have c2 := hr.cell (i := 0) rfl
  obtain ⟨av, cv, rfl, hav, hrdv, hlv, hmv, hnv⟩ := hsl.form
  have HBL := Lib.hid hbl
  clear hbl
  go_enter Try.func23, Try.ntmps23
  go_wp2_with fail
  refine (sumRoll_any r g (x :: rest) w hroll).mono ?_
  rintro e w1 ⟨rfl, hk1⟩
  have ho1 := ho.keep hk1 (by simp)
  have f0 := ho1.free (i := 0)
  have hu1 := hu.keep hk1 (by simp)
  have c1' := hu1.cell (i := 0) rfl
  have f1' := hu1.free (i := 0)
  have c2' := (hr.keep hk1 (by simp)).cell (i := 0) rfl
  have c3' := (hs.keep hk1 (by simp)).cell (i := 0) rfl
  have c4' := (hd.keep hk1 (by simp)).cell (i := 0) rfl
  have c0' := ho1.cell (i := 0) rfl
  have hne' := hne
  obtain ⟨n1, n2, n3, n4, n5⟩ := hne
  have k2 : Keep [po] w1 (w1.setCell ⟨po, 0, none⟩ (.bool true)) := (Keep.refl _ _).set (by simp) _
  have k3 : Keep [po] w1 ((w1.setCell ⟨po, 0, none⟩ (.bool true)).alloc (.cells #[.int .i64 (sumOf (x :: rest))] 3)) := k2.alloc _
  have hsl3 : Hid (Sl ((w1.setCell ⟨po, 0, none⟩ (.bool true)).alloc (.cells #[.int .i64 (sumOf (x :: rest))] 3)) 3 1 (.slice av k cv) k vs) := by
    show Sl _ _ _ _ _ _
    exact (hsl.keep hk1 (by simp)).keep k3 (fun c hc => by have := HBL.out c hc; simp at this ⊢; omega)
  have hrz : Hid (Rd ((w1.setCell ⟨po, 0, none⟩ (.bool true)).alloc (.cells #[.int .i64 (sumOf (x :: rest))] 3)) (some ⟨w1.heap.size, 0, none⟩) [.int .i64 (sumOf (x :: rest))]) := by
    show Rd _ _ _
    exact Rd.made _ _ _ _ _ _ (by simp) rfl
  have OZ : Hid (∀ v ∈ [Value.int .i64 (sumOf (x :: rest))], v.oneCell' = true) := by show ∀ v ∈ _, _; simp [Value.oneCell']
  have K1 := Lib.hid hk1
  have K3 := Lib.hid k3
  have HSL := Lib.hid hsl
  have HRV := Lib.hid hrdv
  clear hav hnv hsl hrdv hk1 k2 k3 c0 c1 c2
  generalize hsum : sumOf (x :: rest) = sm at *
  have HSUM := Lib.hid hsum
  clear hsum
  have hbv : Hid (∀ c ∈ [po, pu, r, g, ps, pd, pr, b], c ∉ blks (.slice av k cv)) := by
    show ∀ c ∈ _, _
    intro c hc hx; exact HBL.out c hx hc
  have ho3 : Blk ((w1.setCell ⟨po, 0, none⟩ (.bool true)).alloc (.cells #[.int .i64 sm] 3)) po #[.bool true] 4 := by simp [Blk, heap_setCell_if, ho1.hp, objSet_cells]; exact (Blk.alloc (by simp [Blk, heap_setCell_if, ho1.hp, objSet_cells]) _)
  have HO3 := Lib.hid ho3
  have hu3 := Lib.hid (hu1.keep K3.out (by simp; omega))
  have hs3 := Lib.hid ((hs.keep K1.out (by simp)).keep K3.out (by have := hq.1; simp at this ⊢; omega))
  have hd3 := Lib.hid ((hd.keep K1.out (by simp)).keep K3.out (by have := hq.2.1; simp at this ⊢; omega))
  have hr3 := Lib.hid ((hr.keep K1.out (by simp)).keep K3.out (by have := hq.2.2.1; simp at this ⊢; omega))
  clear ho3 ho1 hu1
  have m1 : ps ≠ pu := by have := hq.1; simp at this; omega
  have m2 : pd ≠ pu := by have := hq.2.1; simp at this; omega
  have m3 : pr ≠ pu := by have := hq.2.2.1; simp at this; omega
  have m4 : b ≠ pu := by have := hq.2.2.2; simp at this; omega
  go_upto_region 3 with (refine wpList_appendS rfl (.tmp 23) (.tmp 25) 50 rfl 3 (.int .i64 0) 1 8 Try.underlying50 Try.info3 rfl (by omega) (.slice av k cv) k vs rfl hsl3.out (some ⟨w1.heap.size, 0, none⟩) 1 1 [.int .i64 sm] rfl rfl (by simp) hrz.out OZ.out (by simp only [maxLen]; omega) (by omega) ?_; intro va w4 hsa hka hba; obtain ⟨ava, cva, rfl, hsa1, -, hsa3, hsa4, -⟩ := hsa.form; have ho4 := HO3.out.keep hka (hbv.out po (by simp)); have hu4 := hu3.out.keep hka (hbv.out pu (by simp)); have hs4 := hs3.out.keep hka (hbv.out ps (by simp)); have hd4 := hd3.out.keep hka (hbv.out pd (by simp)); have hr4 := hr3.out.keep hka (hbv.out pr (by simp)); have e0 := ho4.cell (i := 0) rfl; have e1 := hu4.cell (i := 0) rfl; have e2 := hs4.cell (i := 0) rfl; have e3 := hd4.cell (i := 0) rfl; have e4 := hr4.cell (i := 0) rfl; have g1 := hu4.free (i := 0))
  have k5 : Keep [pu] w4 (w4.setCell ⟨pu, 0, none⟩ (.slice ava (k + 1) cva)) := (Keep.refl _ _).set (by simp) _
  have kW4 : Keep ([po, pu, r, g] ++ blks (.slice av k cv)) w w4 :=
    ((K1.out.mono (T := [po, pu, r, g] ++ blks (.slice av k cv)) (by simp)).trans K3.out (fun c hc => Or.inl (by simp at hc; simp [hc]))).trans hka (fun c hc => Or.inl (by simp only [List.mem_append]; exact Or.inr hc))
  have hob5 : Blk (w4.setCell ⟨pu, 0, none⟩ (.slice ava (k + 1) cva)) po #[.bool true] 4 := ho4.keep k5 (by simp; omega)
  have hub5 : Blk (w4.setCell ⟨pu, 0, none⟩ (.slice ava (k + 1) cva)) pu #[.slice ava (k + 1) cva] 50 := by simp [Blk, heap_setCell_if, hu4.hp, objSet_cells]
  have hpv : pu ∉ blks (.slice ava (k + 1) cva) := by
    rcases hba with e | e
    · rw [e]; exact hbv.out pu (by simp)
    · intro hx
      have h5 := e pu hx
      have h6 := hu.lt
      have h7 := K1.out.size
      simp at h5; omega
  have hsl5 : Sl (w4.setCell ⟨pu, 0, none⟩ (.slice ava (k + 1) cva)) 3 1 (.slice ava (k + 1) cva) (k + 1) (vs ++ [.int .i64 sm]) := hsa.keep k5 (fun c hc hx => by simp at hx; subst hx; exact hpv hc)
  have kW5 : Keep ([po, pu, r, g] ++ blks (.slice av k cv)) w (w4.setCell ⟨pu, 0, none⟩ (.slice ava (k + 1) cva)) := kW4.trans k5 (by simp)
  have hbl5 : blks (.slice ava (k + 1) cva) = blks (.slice av k cv) ∨ ∀ c ∈ blks (.slice ava (k + 1) cva), w.heap.size ≤ c := by
    rcases hba with e | e
    · exact Or.inl e
    · right; intro c hc
      have h5 := e c hc
      have h7 := K1.out.size
      simp at h5; omega
  have hroll5 : RollAt (w4.setCell ⟨pu, 0, none⟩ (.slice ava (k + 1) cva)).drew r g (x :: rest) :=
    ((((hroll.keep K1.out (by simp) (by simp)).keep K3.out (by simp; omega) (by simp; omega)).keep hka (hbv.out r (by simp)) (hbv.out g (by simp))).keep k5 (by simp; omega) (by simp; omega)).keep (S := []) (Keep.refl _ _).drew (by simp) (by simp)
  have HEND : Hid (∀ w6, Keep [r, g] (w4.setCell ⟨pu, 0, none⟩ (.slice ava (k + 1) cva)) w6 → (k + n < l → RollAt w6 r g (rest ++ [y])) → (Blk w6 po #[.bool true] 4 ∧ (∃ v', Blk w6 pu #[v'] 50 ∧ Sl w6 3 1 v' (k + 1) (vs ++ [.int .i64 sm]) ∧ (blks v' = blks (.slice av k cv) ∨ ∀ c ∈ blks v', w.heap.size ≤ c)) ∧
        (k + n < l → RollAt w6 r g (rest ++ [y])) ∧ Keep ([po, pu, r, g] ++ blks (.slice av k cv)) w w6)) := by
    show ∀ w6, _ → _ → _
    intro w6 hk6 hr6
    have hrg : ∀ c ∈ blks (.slice ava (k + 1) cva), c ∉ [r, g] := by
      intro c hc
      rcases hbl5 with e | e
      · rw [e] at hc; have := HBL.out c hc; simp at this ⊢; omega
      · have h5 := e c hc
        have h6 := hroll.lts
        simp; omega
    exact ⟨hob5.keep hk6 (by simp; omega), ⟨_, hub5.keep hk6 (by simp; omega), hsl5.keep hk6 hrg, hbl5⟩, hr6, kW5.trans hk6 (fun c hc => Or.inl (by simp at hc; rcases hc with e | e <;> simp [e]))⟩
  by_cases hlt : k + n < l
  · have d1 : decide ((k : Int) + n < l) = true := decide_eq_true (by omega)
    have hyw := hy hlt
    have hbb : b ∉ [po, pu, r, g] := hq.2.2.2
    have hy5 : (w4.setCell ⟨pu, 0, none⟩ (.slice ava (k + 1) cva)).cell? ⟨b, off + (k + n), none⟩ = some (B8 y) :=
      k5.cell (hka.cell (K3.out.cell (K1.out.cell hyw (by simp)) (by simp at hbb ⊢; omega)) (hbv.out b (by simp))) (by simp; omega)
    have z1 : (k : Int) + n < l := by omega
    have z2 : (0 : Int) ≤ (k : Int) + n := by omega
    have z3 : ((k : Int) + n).toNat = k + n := by omega
    have q1 : IntKind.i64.wrap ((k : Int) + n) = (k : Int) + n := IntWalk.i64_in _ (by omega)
    have hps5 := (hs4.keep k5 (by simp; omega)).cell (i := 0) rfl
    have hpd5 := (hd4.keep k5 (by simp; omega)).cell (i := 0) rfl
    have hpr5 := (hr4.keep k5 (by simp; omega)).cell (i := 0) rfl
    have m5 : ps ∉ [r, g] := by have := hq.1; simp at this ⊢; omega
    have m6 : pd ∉ [r, g] := by have := hq.2.1; simp at this ⊢; omega
    have m7 : pr ∉ [r, g] := by have := hq.2.2.1; simp at this ⊢; omega
    have m8 : b ∉ [r, g] := by simp at hbb ⊢; omega
    have ho5 := hob5.cell (i := 0) rfl
    have m9 : po ∉ [r, g] := by simp; omega
    go_wp2_with fail
    go_region_held3 (fun w' => w'.cell? ⟨pr, 0, none⟩ = some (.pointer (some ⟨r, 0, none⟩)) ∧ w'.cell? ⟨pd, 0, none⟩ = some (.slice (some ⟨b, off, none⟩) l cap) ∧ w'.cell? ⟨ps, 0, none⟩ = some (.int .i64 n) ∧ w'.cell? ⟨b, off + (k + n), none⟩ = some (B8 y)) ((first | (refine ⟨?_, ?_, ?_, ?_⟩ <;> assumption) | go_simp))
      ((go_at_call 18; go_must (refine (pushRoll_any r g x rest y _ hroll5).mono ?_); go_must (rintro e w6 ⟨rfl, hroll6, hk6⟩; have h1 := hk6.cell (v := .pointer (some ⟨r, 0, none⟩)) (a := ⟨pr, 0, none⟩) hpr5 m7; have h2 := hk6.cell (v := .slice (some ⟨b, off, none⟩) l cap) (a := ⟨pd, 0, none⟩) hpd5 m6; have h3 := hk6.cell (v := .int .i64 n) (a := ⟨ps, 0, none⟩) hps5 m5; have h4 := hk6.cell (v := B8 y) (a := ⟨b, off + (k + n), none⟩) hy5 m8; have h5 := hk6.cell (v := .bool true) (a := ⟨po, 0, none⟩) ho5 m9)))
    go_wp2
    go_returns
    have hh := HEND.out _ ((Keep.refl _ _).drew.trans hk6 (fun c hc => Or.inl hc)) (fun _ => hroll6)
    rw [← HSUM.out] at hh
    exact ⟨rfl, hh⟩
  · have d1 : decide ((k : Int) + n < l) = false := decide_eq_false (by omega)
    go_wp2
    go_returns
    have hh := HEND.out _ (Keep.refl _ _) (fun h => absurd h hlt)
    rw [← HSUM.out] at hh
    exact ⟨rfl, hh⟩
end Go.Proofs.Ytcbinihjbmgkdaa

/- Ss Wv Wt Mw Mz -/
import Derived.Test.YtpocegdlobnhaaaGF
import Derived.Test.YtpocegdlobnhaaaGA
import Derived.Test.YtpocegdlobnhaaaCL
import Derived.Test.YtpocegdlobnhaaaGD
section
/- steps: the walk. -/
set_option linter.unusedVariables false
set_option linter.unusedSimpArgs false
set_option maxRecDepth 100000
namespace Go.Proofs.Ytpocegdlobnhaaa
open Go.RowKit
/-- Instructions, given: or there are too many. -/
def GiveL (w : World) (T : List StepP) (e : Ending) (w' : World) : Prop :=
  ∃ (a : Option Addr) (m c : Nat) (vs : List Value) (l : List StepP), e = .returned (.tuple #[.slice a m c, .bool (decide (T.length ≤ 2048))]) ∧ (T.length ≤ 2048 → l = T) ∧ SL w w' a m c vs l
theorem litP_yes {d : List UInt8} {p q : Nat} (h : p < q) : litP d p q = [.lit ((d.drop p).take (q - p))] := by rw [litP, if_pos h]
theorem litP_no {d : List UInt8} {p q : Nat} (h : ¬ p < q) : litP d p q = [] := by rw [litP, if_neg h]
set_option maxHeartbeats 8000000 in
theorem steps_any (M : Nat) (s : Sg) (a : Option Addr) (n c : Nat) (ta : Option Addr) (tn tc : Nat) (d : List UInt8) (r V Z : Nat) (w : World) (h : MkAt w M s a n c ta tn tc d r) (hV : s.width = V) (hZ : s.size = Z) (hV1 : 1 ≤ V ∧ V ≤ 32) (hZ1 : 16 ≤ Z ∧ Z ≤ 4096) (htn : tn ≤ 131072) (hbn : n ≤ 2048) :
    Calls Try.prog 48 #[.pointer (some ⟨M, 0, none⟩)] w (GiveL w (stP s d)) := by
  have hzN : s.size.toNat = Z := by rw [hZ]; simp
  have hl := h.tg.hlen
  have hbl := h.ws.hlen
  have hle := h.tg.hle
  have g1 := h.c1
  have g36 := h.c36
  rw [hZ] at g1
  have HK := Lib.hid h
  have HZN := Lib.hid hzN
  have HL := Lib.hid hl
  have HBL := Lib.hid hbl
  have HV := Lib.hid hV
  have HZ := Lib.hid hZ
  obtain ⟨T, hT⟩ : ∃ T, stP s d = T := ⟨_, rfl⟩
  rw [hT]
  have hT0 : Hid (([] : List StepP) ++ stF s d (d.length + 1) 0 0 = T) := Lib.hid hT
  clear hT h hV hZ hzN hl hbl
  go_enter Try.func48, Try.ntmps48
  go_upto_region 3 with fail
  go_loopw [4, 5] (fun v4 v5 wr => ∃ (p f : Nat) (oa : Option Addr) (m oc : Nat) (vs : List Value) (l : List StepP), p ≤ tn ∧ v5 = .int .i64 (p : Nat) ∧ v4 = .slice oa m oc ∧ Hid (d.length + 1 ≤ f + p) ∧ Hid (l ++ stF s d f p p = T) ∧ SL w wr oa m oc vs l ∧ m ≤ 2048) (fun _ v5 _ => tn - (intOf v5).toNat)
  case atStart => exact ⟨0, d.length + 1, none, 0, 0, [], [], by omega, rfl, rfl, Lib.hid (by omega), hT0, ⟨Sl.nil _ _ _, StL.nil _, by intro b hb; simp [blks, Value.ownBlock] at hb, by simp, Keep.refl [] w, rfl⟩, by omega⟩
  case round =>
    clear hT0
    obtain ⟨p, f, oa, m, oc, vs, l, hp, rfl, rfl, HF, HT, hs, hm⟩ := hrel
    have g36' := hs.k.cell g36 (by simp)
    have g1' := hs.k.cell g1 (by simp)
    by_cases hlt : p < tn
    case neg =>
      have e0 : decide ((p : Int) < tn) = false := decide_eq_false (by omega)
      have HTL := Lib.hid (show l = T by rw [← HT.out, stF_end (by rw [HL.out]; omega) (by rw [HZN.out]; omega), List.append_nil])
      have d1 : decide ((m : Int) ≤ 2048) = true := decide_eq_true (by omega)
      have d2 : decide (T.length ≤ 2048) = true := decide_eq_true (by rw [← HTL.out, hs.len]; exact hm)
      have HD := Lib.hid d2
      clear d2
      go_wp2_with fail
      go_returns
      exact ⟨oa, m, oc, vs, l, by rw [HD.out]; rfl, fun _ => HTL.out, hs⟩
    have e0 : decide ((p : Int) < tn) = true := decide_eq_true (by omega)
    have NX := Lib.hid (next_any M s a n c ta tn tc d r V Z p wr (HK.out.keep hs.k) HV.out HZ.out hV1 hZ1 hlt htn hbn)
    obtain ⟨tb, tof, rfl, -⟩ := in_part HK.out.tg (o := p) (m := tn - p) (by omega) (by omega)
    have HS := Lib.hid hs
    go_upto_region 5 with (first
      | (go_at_call 77; refine NX.out.mono ?_; rintro e w1 ⟨q, i, ok, rfl, HN, k1⟩)
      | fail)
    clear NX
    have g36' := k1.cell g36' (by simp)
    have g1' := k1.cell g1' (by simp)
    have hs1 := hs.keep k1
    have HS1 := Lib.hid hs1
    have hbq : ablk (some ⟨tb, tof, none⟩) < w.heap.size := HK.out.tg.blk (by intro e; have := HL.out; rw [e] at this; simp at this; omega)
    have lits : ∀ (q : Nat) (W : World), p < q → q ≤ tn → Keep [] w W → StIs W (.iface 97 (.agg #[.slice (some ⟨tb, tof + p, none⟩) (q - p) (tc - p)])) (.lit ((d.drop p).take (q - p))) ∧ (∀ b ∈ stb (.iface 97 (.agg #[.slice (some ⟨tb, tof + p, none⟩) (q - p) (tc - p)])), b < w.heap.size) := fun q W h1 h2 k => by
      obtain ⟨b', o', e', hI⟩ := in_part (HK.out.tg.keep k (by simp)) (o := p) (m := q - p) (by omega) (by omega)
      obtain ⟨rfl, rfl⟩ : tb = b' ∧ tof = o' := by simpa using e'
      refine ⟨⟨_, _, _, rfl, hI⟩, fun b hb => ?_⟩
      rw [stb_lit] at hb
      have : b = tb := by simpa [blks, Value.ownBlock] using hb
      rw [this]; exact hbq
    have LITS := Lib.hid lits
    clear lits hs hs1 hbq
    rcases HN.out with ⟨rfl, hpq, hq, hi, hi0, hno⟩ | ⟨rfl, rfl, rfl, hno⟩
    case inr =>
      have HTE := Lib.hid (show T = l ++ [.lit ((d.drop p).take (tn - p))] by
        rw [← HT.out, stF_none (d.length - p) f p (by omega) (by have := HF.out; have := HL.out; omega) (fun k h1 h2 => hno k h1 h2) (by rw [HZN.out]; omega), HL.out, litP_yes hlt])
      have d2 : decide ((p : Int) < tn) = true := e0
      have z1 : (p : Int) ≤ tn := by omega
      have z2 : (0 : Int) ≤ p := by omega
      have z3 : (tn : Int) ≤ tc := by omega
      have z4 : ¬ tc = p := by omega
      have d3 : decide ((m : Int) + 1 ≤ 2048) = decide (T.length ≤ 2048) := by
        rw [HTE.out, List.length_append, HS1.out.len]
        show decide ((m : Int) + 1 ≤ 2048) = decide (m + 1 ≤ 2048)
        exact decide_eq_decide.2 (by omega)
      have HI2 := Lib.hid (show (m + 1) * 16 ≤ 140737488355328 ∧ m + 1 ≤ maxLen by simp only [maxLen]; omega)
      clear hno HN
      go_upto_region 17 with (first
        | (refine wpList_buildV rfl 83 93 (.tmp 43) rfl (.iface 97 (.agg #[.slice (some ⟨tb, tof + p, none⟩) (tn - p) (tc - p)])) rfl rfl .nilIface 16 Try.underlying83 info93 rfl ?_)
        | (at_builtin; go_must (refine wpList_append1 w1 rfl (.tmp 34) (.tmp 44) 83 rfl 93 .nilIface 16 Try.underlying83 info93 rfl (.iface 97 (.agg #[.slice (some ⟨tb, tof + p, none⟩) (tn - p) (tc - p)])) rfl (.slice oa m oc) m vs rfl HS1.out.sl rfl HI2.out.2 HI2.out.1 ?_; intro a6 c6 w6 hs6 hk6 hf6))
        | fail)
      obtain ⟨l1, l2⟩ := LITS.out tn w1 hlt (Nat.le_refl _) HS1.out.k
      have hs7 := HS1.out.app (Keep.refl [] w1) hs6 hk6 hf6 l1 l2
      have HS7 := Lib.hid hs7
      obtain ⟨bb, hbb⟩ : ∃ bb, decide (T.length ≤ 2048) = bb := ⟨_, rfl⟩
      rw [hbb] at d3
      have HBB := Lib.hid hbb
      clear hs7 hbb l1 l2
      go_wp2_with fail
      go_returns
      exact ⟨a6, m + 1, c6, _, _, by rw [HBB.out]; rfl, fun _ => HTE.out.symm, HS7.out⟩
    case inl =>
      obtain ⟨I, rfl⟩ : ∃ I : Nat, i = I := ⟨i.toNat, by omega⟩
      rw [HZN.out] at hq
      have hq2 : q + Z ≤ tn := by rw [← HL.out]; exact hq
      have HHI := Lib.hid hi
      have HTE := Lib.hid (show ∃ f', d.length + 1 ≤ f' + (q + cnt s d q I * Z) ∧ (l ++ litP d p q) ++ .cp I (cnt s d q I) :: stF s d f' (q + cnt s d q I * Z) (q + cnt s d q I * Z) = T by
        have hf := HF.out
        have hskip := stF_skip (s := s) (d := d) (p := p) (q - p) (f - (q - p)) p (fun k h1 h2 => hno k h1 (by omega)) (by rw [HZN.out]; omega)
        rw [show f - (q - p) + (q - p) = f by omega, show p + (q - p) = q by omega] at hskip
        have hh := stF_hit (s := s) (d := d) (f := f - (q - p) - 1) (p := p) (q := q) (i := I) (by rw [HZN.out]; omega) hi
        rw [show f - (q - p) - 1 + 1 = f - (q - p) by omega, HZN.out] at hh
        refine ⟨f - (q - p) - 1, ?_, ?_⟩
        · have h1 : 1 ≤ cnt s d q I := by
            have : ∀ f j, j ≤ extF s d q I f j := by
              intro f; induction f with
              | zero => intro j; exact Nat.le_refl _
              | succ f ih => intro j; rw [extF]; split; exact Nat.le_trans (by omega) (ih (j + 1)); exact Nat.le_refl _
            exact this _ 1
          have : Z ≤ cnt s d q I * Z := Nat.le_mul_of_pos_left _ h1
          omega
        · rw [List.append_assoc, ← hh, ← hskip]; exact HT.out)
      clear hi hno HN
      obtain ⟨bb, hbb⟩ : ∃ bb, decide ((p : Int) < q) = bb := ⟨_, rfl⟩
      have HBB := Lib.hid hbb
      go_upto_if 33 with fail
      clear hbb
      go_cut [4] (fun v4 wc => ∃ a2 m2 c2 vs2, v4 = .slice a2 m2 c2 ∧ Hid (SL w wc a2 m2 c2 vs2 (l ++ litP d p q)) ∧ Keep [] w wc ∧ m2 ≤ m + 1)
      case first =>
        cases bb with
        | true =>
          have hpq2 : p < q := by have := of_decide_eq_true HBB.out; omega
          have z1 : (p : Int) ≤ q := by omega
          have z2 : (0 : Int) ≤ p := by omega
          have z3 : (q : Int) ≤ tc := by omega
          have z4 : ¬ tc = p := by omega
          have HI2 := Lib.hid (show (m + 1) * 16 ≤ 140737488355328 ∧ m + 1 ≤ maxLen by simp only [maxLen]; omega)
          have HLI := Lib.hid (litP_yes (d := d) hpq2)
          have HPQ := Lib.hid hpq2
          go_wp2_with (first
            | (refine wpList_buildV rfl 83 93 (.tmp 43) rfl (.iface 97 (.agg #[.slice (some ⟨tb, tof + p, none⟩) (q - p) (tc - p)])) rfl rfl .nilIface 16 Try.underlying83 info93 rfl ?_)
            | (at_builtin; go_must (refine wpList_append1 w1 rfl (.tmp 34) (.tmp 44) 83 rfl 93 .nilIface 16 Try.underlying83 info93 rfl (.iface 97 (.agg #[.slice (some ⟨tb, tof + p, none⟩) (q - p) (tc - p)])) rfl (.slice oa m oc) m vs rfl HS1.out.sl rfl HI2.out.2 HI2.out.1 ?_; intro a6 c6 w6 hs6 hk6 hf6))
            | fail)
          go_meet
          case rel =>
            obtain ⟨l1, l2⟩ := LITS.out q w1 HPQ.out (by omega) HS1.out.k
            have hs7 := HS1.out.app (Keep.refl [] w1) hs6 hk6 hf6 l1 l2
            exact ⟨a6, m + 1, c6, _, rfl, Lib.hid (by rw [HLI.out]; exact hs7), hs7.k, by omega⟩
        | false =>
          have hpq2 : ¬ p < q := by have := of_decide_eq_false HBB.out; omega
          have HLI := Lib.hid (litP_no (d := d) hpq2)
          go_wp2_with fail
          go_meet
          case rel => exact ⟨oa, m, oc, vs, rfl, Lib.hid (by rw [HLI.out, List.append_nil]; exact HS1.out), HS1.out.k, by omega⟩
      case rest =>
        obtain ⟨a2, m2, c2, vs2, rfl, HS2, kwc, hm2⟩ := hcut
        have g1' := kwc.cell g1 (by simp)
        go_upto_region 11 with fail
        clear g36'
        go_loopw [9] (fun v9 wx => ∃ (j fu : Nat), 1 ≤ j ∧ v9 = .int .i64 (j : Nat) ∧ Hid (extF s d q I fu j = cnt s d q I) ∧ Hid (d.length + 1 ≤ fu + j) ∧ Hid (q + j * Z ≤ tn) ∧ j ≤ tn ∧ Hid (I + j ≤ n ∨ I + j ≤ 4097) ∧ Keep [] wc wx) (fun v9 _ => tn + 1 - (intOf v9).toNat)
        case atStart =>
          refine ⟨1, d.length + 1, by omega, rfl, Lib.hid rfl, Lib.hid (by omega), Lib.hid (by rw [Nat.one_mul]; omega), by omega, Lib.hid ?_, Keep.refl _ _⟩
          have hh := HHI.out
          unfold hitI firstI at hh
          cases hf : firstO s d q (Rol.sumOf (winF d s.size.toNat q)) with
          | none => rw [hf] at hh; simp only at hh; omega
          | some v =>
            rw [hf] at hh
            have hv := List.mem_of_find?_eq_some hf
            have := groups_lt hv
            rw [HBL.out] at this
            simp only at hh
            omega
        case round =>
          obtain ⟨j, fu, hj, rfl, HE, HFU, HQ, hjt, HIJ, kx⟩ := hrel
          have hij : I + j ≤ 4097 := by rcases HIJ.out with h1 | h1 <;> omega
          have g1x := kx.cell g1' (by simp)
          obtain ⟨J, hJ⟩ : ∃ J, j * Z = J := ⟨_, rfl⟩
          have hqJ : q + J ≤ tn := by rw [← hJ]; exact HQ.out
          have e1 : (j : Int) * Z = J := by rw [← hJ]; push_cast; rfl
          have e2 : IntKind.i64.wrap (J : Int) = J := IntWalk.i64_in _ (by omega)
          obtain ⟨QJ, hQJ⟩ : ∃ QJ, q + J = QJ := ⟨_, rfl⟩
          have e3 : (q : Int) + J = QJ := by omega
          have e4 : IntKind.i64.wrap (QJ : Int) = QJ := IntWalk.i64_in _ (by omega)
          obtain ⟨IJ, hIJ⟩ : ∃ IJ, I + j = IJ := ⟨_, rfl⟩
          have e5 : (I : Int) + j = IJ := by omega
          have e6 : IntKind.i64.wrap (IJ : Int) = IJ := IntWalk.i64_in _ (by omega)
          obtain ⟨fb, hfb⟩ : ∃ fb, fitW s d QJ IJ = fb := ⟨_, rfl⟩
          have FT := Lib.hid (by have := fits_any M s a n c (some ⟨tb, tof, none⟩) tn tc d r V Z QJ IJ wr (HK.out.keep (kwc.trans' kx)) HV.out HZ.out hV1 hZ1 (by omega) (by omega) htn; rw [hfb] at this; exact this : Calls Try.prog 78 #[.pointer (some ⟨M, 0, none⟩), .int .i64 (QJ : Nat), .int .i64 (IJ : Nat)] wr fun e w' => e = .returned (.bool fb) ∧ Keep [] wr w')
          have HFB := Lib.hid hfb
          have HJE := Lib.hid hJ
          have HQJ := Lib.hid hQJ
          have HIJE := Lib.hid hIJ
          clear hfb hJ hQJ hIJ
          cases fb with
          | true =>
            go_wp2_with (first
              | (go_at_call 78; refine FT.out.mono ?_; rintro e w3 ⟨rfl, k3⟩)
              | fail)
            have hfit : fitW s d (q + j * s.size.toNat) (I + j) = true := by rw [HZN.out, HJE.out, HQJ.out, HIJE.out]; exact HFB.out
            have hfl := fitW_le hfit
            rw [HZN.out, HL.out, HBL.out] at hfl
            obtain ⟨fu, rfl⟩ : ∃ g, fu = g + 1 := ⟨fu - 1, by have := HFU.out; have := HL.out; omega⟩
            exact ⟨⟨j + 1, fu, by omega, by go_num, Lib.hid (by have := HE.out; rw [extF, if_pos hfit] at this; exact this), Lib.hid (by have := HFU.out; omega), Lib.hid (by rw [Nat.add_mul, Nat.one_mul]; omega), by have : j ≤ j * Z := Nat.le_mul_of_pos_right _ (by omega); omega, Lib.hid (Or.inl (by omega)), kx.trans' k3⟩, by simp [intOf]; omega⟩
          | false =>
            have hfit : fitW s d (q + j * s.size.toNat) (I + j) = false := by rw [HZN.out, HJE.out, HQJ.out, HIJE.out]; exact HFB.out
            have HCJ := Lib.hid (show cnt s d q I = j by rw [← HE.out, extF_stop hfit])
            clear hfit
            go_upto_region 13 with (first
              | (go_at_call 78; refine FT.out.mono ?_; rintro e w3 ⟨rfl, k3⟩)
              | fail)
            have kw3 := (kwc.trans' kx).trans' k3
            have HS3 := Lib.hid (HS2.out.keep (kx.trans' k3))
            have HI2 := Lib.hid (show (m2 + 1) * 16 ≤ 140737488355328 ∧ m2 + 1 ≤ maxLen by simp only [maxLen]; omega)
            go_upto_region 14 with (first
              | (refine wpList_buildV rfl 83 93 (.tmp 68) rfl (.iface 95 (.agg #[.int .i64 (I : Nat), .int .i64 (j : Nat)])) rfl rfl .nilIface 16 Try.underlying83 info93 rfl ?_)
              | (at_builtin; go_must (refine wpList_append1 w3 rfl (.tmp 64) (.tmp 69) 83 rfl 93 .nilIface 16 Try.underlying83 info93 rfl (.iface 95 (.agg #[.int .i64 (I : Nat), .int .i64 (j : Nat)])) rfl (.slice a2 m2 c2) m2 vs2 rfl HS3.out.sl rfl HI2.out.2 HI2.out.1 ?_; intro a6 c6 w6 hs6 hk6 hf6))
              | fail)
            have hs7 := HS3.out.app (x := .cp I j) (Keep.refl [] w3) hs6 hk6 hf6 rfl (by intro b hb; cases hb)
            have HS7 := Lib.hid hs7
            have g1y := hs7.k.cell g1 (by simp)
            obtain ⟨f', hf', hTT⟩ := HTE.out
            rw [HCJ.out, HJE.out, HQJ.out] at hf' hTT
            have HTT := Lib.hid (show (l ++ litP d p q ++ [.cp I j]) ++ stF s d f' QJ QJ = T by rw [List.append_assoc]; exact hTT)
            have HF' := Lib.hid hf'
            have hlen7 := hs7.len
            have HLN := Lib.hid hlen7
            clear hs7 hTT hf' hlen7 g1x
            by_cases hbig : 2048 < m2 + 1
            · have d5 : decide ((2048 : Int) < (m2 : Int) + 1) = true := decide_eq_true (by omega)
              have HTB := Lib.hid (show decide (T.length ≤ 2048) = false by
                apply decide_eq_false
                rw [← HTT.out, List.length_append, HLN.out]; omega)
              go_wp2_with fail
              go_returns
              exact ⟨none, 0, 0, [], [], by rw [HTB.out]; rfl, fun h => absurd (decide_eq_true h) (by rw [HTB.out]; simp), ⟨Sl.nil _ _ _, StL.nil _, by intro b hb; simp [blks, Value.ownBlock] at hb, by simp, HS7.out.k, rfl⟩⟩
            · have d5 : decide ((2048 : Int) < (m2 : Int) + 1) = false := decide_eq_false (by omega)
              have hpQ : p < QJ := by have := HQJ.out; have := HJE.out; have : 0 < j * Z := Nat.mul_pos (by omega) (by omega); omega
              go_wp2_with fail
              exact ⟨⟨QJ, f', a6, m2 + 1, c6, _, _, by omega, rfl, rfl, HF', HTT, HS7.out, by omega⟩, by simp [intOf]; omega⟩
end Go.Proofs.Ytpocegdlobnhaaa
end
section
/- A delta's form (plain); a Writer since a world, beside an id. -/
set_option linter.unusedVariables false
set_option linter.unusedSimpArgs false
set_option maxRecDepth 100000
namespace Go.Proofs.Ytpocegdlobnhaaa
open Go.RowKit
def stB : StepP → List UInt8
  | .cp f c => ([1] ++ Cod.numB f) ++ Cod.numB c
  | .lit ys => [2] ++ Cod.textB ys
def wrHd (wd sz ln : Nat) (base : List UInt8) (n : Nat) (id : List UInt8) (m : Nat) : List UInt8 :=
  (((((([68] ++ Cod.numB wd) ++ Cod.numB sz) ++ Cod.numB ln) ++ base.take wd) ++ Cod.numB n) ++ id.take wd) ++ Cod.numB m
def wrTo (wd sz ln : Nat) (base : List UInt8) (n : Nat) (id : List UInt8) (m : Nat) (l : List StepP) (i : Nat) : List UInt8 := wrHd wd sz ln base n id m ++ (l.take i).flatMap stB
theorem wrTo_zero (wd sz ln : Nat) (base : List UInt8) (n : Nat) (id : List UInt8) (m : Nat) (l : List StepP) : wrTo wd sz ln base n id m l 0 = wrHd wd sz ln base n id m := by simp [wrTo]
theorem wrTo_succ {wd sz ln : Nat} {base : List UInt8} {n : Nat} {id : List UInt8} {m : Nat} {l : List StepP} {i : Nat} {x : StepP} (h : l[i]? = some x) : wrTo wd sz ln base n id m l (i + 1) = wrTo wd sz ln base n id m l i ++ stB x := by
  unfold wrTo; rw [List.take_add_one, h]; simp
/-- A delta, written. -/
def wrB (wd sz ln : Nat) (base : List UInt8) (n : Nat) (id : List UInt8) (l : List StepP) : List UInt8 := sealB (wrTo wd sz ln base n id l.length l l.length)
def StepP.small : StepP → Prop
  | .cp f c => f ≤ 2147483647 ∧ c ≤ 2147483647
  | .lit ys => ys.length ≤ 131072
theorem stB_len {x : StepP} (h : x.small) : (stB x).length ≤ 131080 := by
  cases x with
  | cp f c =>
    have h1 := Cod.numB_len5 (show f ≤ 2147483647 from h.1)
    have h2 := Cod.numB_len5 (show c ≤ 2147483647 from h.2)
    simp only [stB, List.length_append, List.length_singleton]; omega
  | lit ys =>
    have h0 : ys.length ≤ 131072 := h
    have h1 := Cod.textB_len ys (by omega)
    simp only [stB, List.length_append, List.length_singleton]; omega
theorem wrHd_len {wd sz ln : Nat} {base : List UInt8} {n : Nat} {id : List UInt8} {m : Nat} (h1 : wd ≤ 32) (h2 : sz ≤ 2147483647) (h3 : ln ≤ 2147483647) (h4 : n ≤ 2147483647) (h5 : m ≤ 2147483647) : (wrHd wd sz ln base n id m).length ≤ 100 := by
  have e1 := Cod.numB_len5 (show wd ≤ 2147483647 by omega)
  have e2 := Cod.numB_len5 h2
  have e3 := Cod.numB_len5 h3
  have e4 := Cod.numB_len5 h4
  have e5 := Cod.numB_len5 h5
  simp only [wrHd, List.length_append, List.length_singleton, List.length_take]; omega
theorem wrTo_len {wd sz ln : Nat} {base : List UInt8} {n : Nat} {id : List UInt8} {m : Nat} {l : List StepP} (h1 : wd ≤ 32) (h2 : sz ≤ 2147483647) (h3 : ln ≤ 2147483647) (h4 : n ≤ 2147483647) (h5 : m ≤ 2147483647) (hs : ∀ x ∈ l, x.small) : ∀ i, (wrTo wd sz ln base n id m l i).length ≤ 100 + 131080 * i := by
  intro i
  induction i with
  | zero => rw [wrTo_zero]; exact wrHd_len h1 h2 h3 h4 h5
  | succ i ih =>
    cases h : l[i]? with
    | none => rw [wrTo, List.take_add_one, h]; simp only [Option.toList_none, List.append_nil]; exact Nat.le_trans ih (by omega)
    | some x =>
      rw [wrTo_succ h, List.length_append]
      have := stB_len (hs x (List.mem_of_getElem? h))
      omega
/-- A Writer since a world, beside a row of bytes that lies in another block. -/
def WrI (w0 W : World) (P : Nat) (X : List UInt8) (px : Nat) (ids : List UInt8) : Prop := ∃ S, Cod.WrAt W P S false X ∧ Fr w0 [] S ∧ Keep [] w0 W ∧ px ∉ S ∧ px < W.heap.size ∧ W.rangeAt px 0 (bs ids)
theorem WrI.kp {w0 W : World} {P px : Nat} {X ids : List UInt8} (h : WrI w0 W P X px ids) : Keep [] w0 W := by obtain ⟨S, h1, h2, h3, -⟩ := h; exact h3
theorem WrI.keep {w0 W W' : World} {P px : Nat} {X ids : List UInt8} (h : WrI w0 W P X px ids) (k : Keep [] W W') : WrI w0 W' P X px ids := by
  obtain ⟨S, h1, h2, h3, h4, h5, h6⟩ := h
  exact ⟨S, h1.keep k (by simp), h2, h3.trans' k, h4, Nat.lt_of_lt_of_le h5 k.size, rangeAt_keep h6 k (by simp)⟩
theorem WrI.step {w0 W : World} {P px : Nat} {X d ids : List UInt8} (h : WrI w0 W P d px ids) {f : Nat} {args : Array Value}
    (hc : ∀ S, Cod.WrAt W P S false d → Calls Try.prog f args W fun e w' => e = .returned (.tuple #[]) ∧ ∃ S', Cod.WrAt w' P S' false X ∧ Fr W S S' ∧ Keep S W w') :
    Calls Try.prog f args W fun e w' => e = .returned (.tuple #[]) ∧ WrI w0 w' P X px ids := by
  obtain ⟨S, h1, h2, h3, h4, h5, h6⟩ := h
  refine (hc S h1).mono ?_
  rintro e w' ⟨rfl, S', g1, g2, g3⟩
  exact ⟨rfl, S', g1, h2.trans g2 h3.size, h3.trans g3 (fun b hb => (h2 b hb).elim (fun h => by cases h) Or.inr), fun hb => (g2 px hb).elim h4 (fun h => by omega), Nat.lt_of_lt_of_le h5 g3.size, rangeAt_keep h6 g3 h4⟩
section
variable {w0 W : World} {P px : Nat} {d ids : List UInt8}
theorem WrI.fix (h : WrI w0 W P d px ids) (X : List UInt8) (v k : Int) (hf : Cod.isFix v k = true) (hv : (Lit.int .i64 v).wf = true) (hd : d.length + 5 ≤ 140737488355328) (hX : d ++ Cod.fixB v.toNat k.toNat = X) :
    Calls Try.prog 66 #[.pointer (some ⟨P, 0, none⟩), .int .i64 v, .int .i64 k] W fun e w' => e = .returned (.tuple #[]) ∧ WrI w0 w' P X px ids := h.step (fun S hS => wr_fix hS hf hv hd hX)
theorem WrI.num (h : WrI w0 W P d px ids) (X : List UInt8) (v : Nat) (hv : v ≤ 2147483647) (hd : d.length + 5 ≤ 140737488355328) (hX : d ++ Cod.numB v = X) :
    Calls Try.prog 67 #[.pointer (some ⟨P, 0, none⟩), .int .i64 (v : Nat)] W fun e w' => e = .returned (.tuple #[]) ∧ WrI w0 w' P X px ids := h.step (fun S hS => wr_num hS hv hd hX)
/-- A row that lay there ahead. -/
theorem WrI.raw (h : WrI w0 W P d px ids) (X xs : List UInt8) (b o m cap : Nat) (hr : w0.rangeAt b o (bs xs)) (h0 : xs ≠ []) (hm : m ≤ xs.length) (hd : d.length + m ≤ 140737488355328) (hX : d ++ xs.take m = X) :
    Calls Try.prog 68 #[.pointer (some ⟨P, 0, none⟩), .slice (some ⟨b, o, none⟩) m cap] W fun e w' => e = .returned (.tuple #[]) ∧ WrI w0 w' P X px ids := by
  have hk := h.kp
  obtain ⟨S, h1, h2, -⟩ := id h
  have hP : w0.heap.size ≤ P := (h2 P h1.self).elim (fun h => by cases h) id
  have hb : b < w0.heap.size := by
    have hR : Rd w0 (some ⟨b, o, none⟩) (bs xs) := Or.inr ⟨b, o, rfl, fun k v hk => hr k v hk⟩
    exact hR.lt (by rw [bs_length]; exact List.length_pos_iff.2 h0)
  exact h.step (fun S hS => wr_raw hS (rangeAt_keep hr hk (by simp)) hm (by omega) hd hX)
/-- The row beside. -/
theorem WrI.rawI (h : WrI w0 W P d px ids) (X : List UInt8) (m cap : Nat) (hm : m ≤ ids.length) (hd : d.length + m ≤ 140737488355328) (hX : d ++ ids.take m = X) :
    Calls Try.prog 68 #[.pointer (some ⟨P, 0, none⟩), .slice (some ⟨px, 0, none⟩) m cap] W fun e w' => e = .returned (.tuple #[]) ∧ WrI w0 w' P X px ids := by
  obtain ⟨S, h1, h2, h3, h4, h5, h6⟩ := id h
  exact h.step (fun S' hS => wr_raw hS h6 hm (fun e => h4 (e ▸ h1.self)) hd hX)
theorem wr_text {S : List Nat} {X xs : List UInt8} {a : Option Addr} {n c : Nat} (hW : Cod.WrAt W P S false d) (hI : InBytes W a n c xs) (hP : xs ≠ [] → ablk a ∉ S) (hd : d.length + n + 5 ≤ 140737488355328) (hn : n ≤ 2147483647) (hX : d ++ Cod.textB xs = X) :
    Calls Try.prog 79 #[.pointer (some ⟨P, 0, none⟩), .slice a n c] W fun e w' => e = .returned (.tuple #[]) ∧ ∃ S', Cod.WrAt w' P S' false X ∧ Fr W S S' ∧ Keep S W w' := by
  refine (Cod.text_any P S false d xs a n c W hW hI.hlen hI.hnil hI.rd hP hd hn hI.blk).mono ?_
  rintro e w' ⟨rfl, ⟨S', h1, h2⟩, h3⟩
  subst hX
  exact ⟨rfl, S', h1, h2, h3⟩
theorem WrI.text (h : WrI w0 W P d px ids) (X xs : List UInt8) (a : Option Addr) (n c : Nat) (hI : InBytes w0 a n c xs) (hd : d.length + n + 5 ≤ 140737488355328) (hn : n ≤ 2147483647) (hX : d ++ Cod.textB xs = X) :
    Calls Try.prog 79 #[.pointer (some ⟨P, 0, none⟩), .slice a n c] W fun e w' => e = .returned (.tuple #[]) ∧ WrI w0 w' P X px ids := by
  obtain ⟨S, h1, h2, h3, h4, h5, h6⟩ := h
  refine (wr_text h1 (hI.keep h3 (by simp)) (fun hx hb => ?_) hd hn hX).mono ?_
  · have := hI.blk hx
    rcases h2 _ hb with h | h
    · cases h
    · omega
  · rintro e w' ⟨rfl, S', g1, g2, g3⟩
    exact ⟨rfl, S', g1, h2.trans g2 h3.size, h3.trans g3 (fun b hb => (h2 b hb).elim (fun h => by cases h) Or.inr), fun hb => (g2 px hb).elim h4 (fun h => by omega), Nat.lt_of_lt_of_le h5 g3.size, rangeAt_keep h6 g3 h4⟩
end
/-- The same, and a block beside. -/
def WrK (w0 W : World) (P : Nat) (X : List UInt8) (px : Nat) (ids : List UInt8) (pb : Nat) (cs : Array Value) (tb : TypeId) : Prop := ∃ S, Cod.WrAt W P S false X ∧ Fr w0 [] S ∧ Keep [] w0 W ∧ px ∉ S ∧ px < W.heap.size ∧ W.rangeAt px 0 (bs ids) ∧ pb ∉ S ∧ Blk W pb cs tb
section
variable {w0 W : World} {P px pb : Nat} {d ids : List UInt8} {cs : Array Value} {tb : TypeId}
theorem WrK.of (h : WrI w0 W P d px ids) {pb : Nat} (hp : pb = W.heap.size) (cs : Array Value) (tb : TypeId) : WrK w0 (W.alloc (.cells cs tb)) P d px ids pb cs tb := by
  obtain ⟨S, h1, h2, h3, h4, h5, h6⟩ := h
  have k : Keep [] W (W.alloc (.cells cs tb)) := (Keep.refl [] W).alloc _
  exact ⟨S, h1.keep k (by simp), h2, h3.trans' k, h4, Nat.lt_of_lt_of_le h5 k.size, rangeAt_keep h6 k (by simp), fun hb => by have := h1.lt pb hb; omega, Blk.new' _ _ _ hp⟩
theorem WrK.out (h : WrK w0 W P d px ids pb cs tb) : WrI w0 W P d px ids ∧ Blk W pb cs tb := by
  obtain ⟨S, h1, h2, h3, h4, h5, h6, -, h8⟩ := h
  exact ⟨⟨S, h1, h2, h3, h4, h5, h6⟩, h8⟩
theorem WrK.step {X : List UInt8} (h : WrK w0 W P d px ids pb cs tb) {f : Nat} {args : Array Value}
    (hc : ∀ S, Cod.WrAt W P S false d → (∀ b ∈ S, w0.heap.size ≤ b) → Calls Try.prog f args W fun e w' => e = .returned (.tuple #[]) ∧ ∃ S', Cod.WrAt w' P S' false X ∧ Fr W S S' ∧ Keep S W w') :
    Calls Try.prog f args W fun e w' => e = .returned (.tuple #[]) ∧ WrK w0 w' P X px ids pb cs tb := by
  obtain ⟨S, h1, h2, h3, h4, h5, h6, h7, h8⟩ := h
  refine (hc S h1 (fr_old h2)).mono ?_
  rintro e w' ⟨rfl, S', g1, g2, g3⟩
  exact ⟨rfl, S', g1, h2.trans g2 h3.size, h3.trans g3 (fun b hb => (h2 b hb).elim (fun h => by cases h) Or.inr), fun hb => (g2 px hb).elim h4 (fun h => by omega), Nat.lt_of_lt_of_le h5 g3.size, rangeAt_keep h6 g3 h4, fun hb => (g2 pb hb).elim h7 (fun h => by have := h8.lt; omega), h8.keep g3 h7⟩
theorem WrK.fix (h : WrK w0 W P d px ids pb cs tb) (X : List UInt8) (v k : Int) (hf : Cod.isFix v k = true) (hv : (Lit.int .i64 v).wf = true) (hd : d.length + 5 ≤ 140737488355328) (hX : d ++ Cod.fixB v.toNat k.toNat = X) :
    Calls Try.prog 66 #[.pointer (some ⟨P, 0, none⟩), .int .i64 v, .int .i64 k] W fun e w' => e = .returned (.tuple #[]) ∧ WrK w0 w' P X px ids pb cs tb := h.step (fun S hS _ => wr_fix hS hf hv hd hX)
theorem WrK.num (h : WrK w0 W P d px ids pb cs tb) (X : List UInt8) (v : Nat) (hv : v ≤ 2147483647) (hd : d.length + 5 ≤ 140737488355328) (hX : d ++ Cod.numB v = X) :
    Calls Try.prog 67 #[.pointer (some ⟨P, 0, none⟩), .int .i64 (v : Nat)] W fun e w' => e = .returned (.tuple #[]) ∧ WrK w0 w' P X px ids pb cs tb := h.step (fun S hS _ => wr_num hS hv hd hX)
theorem WrK.text (h : WrK w0 W P d px ids pb cs tb) (X xs : List UInt8) (a : Option Addr) (n c : Nat) (hI : InBytes w0 a n c xs) (hd : d.length + n + 5 ≤ 140737488355328) (hn : n ≤ 2147483647) (hX : d ++ Cod.textB xs = X) :
    Calls Try.prog 79 #[.pointer (some ⟨P, 0, none⟩), .slice a n c] W fun e w' => e = .returned (.tuple #[]) ∧ WrK w0 w' P X px ids pb cs tb := by
  have hk := h.out.1.kp
  exact h.step (fun S hS hf => wr_text hS (hI.keep hk (by simp)) (fun hx hb => by have := hI.blk hx; have := hf _ hb; omega) hd hn hX)
end
end Go.Proofs.Ytpocegdlobnhaaa
end
section
/- written: the walk. -/
set_option linter.unusedVariables false
set_option linter.unusedSimpArgs false
set_option maxRecDepth 100000
namespace Go.Proofs.Ytpocegdlobnhaaa
open Go.RowKit
set_option maxHeartbeats 8000000 in
theorem written_any (s : Sg) (a : Option Addr) (n c : Nat) (ta : Option Addr) (tn tc : Nat) (d : List UInt8) (sa : Option Addr) (m sc : Nat) (vs : List Value) (l : List StepP) (V Z L : Nat) (w : World) (hd : InBytes w ta tn tc d) (hsl : Sl w 93 1 (.slice sa m sc) m vs) (hst : StL w vs l) (hlm : l.length = m)
    (hV : s.width = V) (hZ : s.size = Z) (hL : s.length = L) (hV1 : 1 ≤ V ∧ V ≤ 32) (hZ1 : Z ≤ 4096) (hL1 : L ≤ 131072) (htn : tn ≤ 131072) (hm : m ≤ 2048) (hsm : ∀ x ∈ l, x.small) :
    Calls Try.prog 49 #[.agg (s.cells a n c).toArray, .slice ta tn tc, .slice sa m sc] w fun e w' => ∃ a' n' c', e = .returned (.slice a' n' c') ∧ n' = (wrB V Z L s.base tn (Dig.shaId V d) l).length ∧ Sl w' 5 1 (.slice a' n' c') n' (bs (wrB V Z L s.base tn (Dig.shaId V d) l)) ∧ Fr w [] (blks (.slice a' n' c')) ∧ Keep [] w w' := by
  have B0 : Blk (w.alloc (.cells (s.cells a n c).toArray 29)) w.heap.size (s.cells a n c).toArray 29 := Blk.new _ _ _
  have k0 : Keep [] w (w.alloc (.cells (s.cells a n c).toArray 29)) := (Keep.refl [] w).alloc _
  obtain ⟨W, hW⟩ : ∃ W, w.alloc (.cells (s.cells a n c).toArray 29) = W := ⟨_, rfl⟩
  obtain ⟨b, hb⟩ : ∃ b, w.heap.size = b := ⟨_, rfl⟩
  rw [hW, hb] at B0
  rw [hW] at k0
  have HW := Lib.hid hW
  have hbW := B0.lt
  have q0 := sg_width B0
  have q1 := sg_size B0
  have q2 := sg_length B0
  have q4 := sg_base B0
  rw [hV] at q0
  rw [hZ] at q1
  rw [hL] at q2
  obtain ⟨cl, hcl⟩ : ∃ cl, s.cells a n c = cl := ⟨_, rfl⟩
  rw [hcl] at HW ⊢
  have hlb := s.lb
  obtain ⟨base, hbase⟩ : ∃ x, s.base = x := ⟨_, rfl⟩
  rw [hbase] at q4 hlb ⊢
  have hdW := hd.keep k0 (by simp)
  have HSL := Lib.hid (hsl.keep k0 (by simp))
  have HST := Lib.hid (hst.keep k0 (by simp))
  have HLM := Lib.hid hlm
  have HSM := Lib.hid hsm
  have HD := Lib.hid hdW
  have HLB := Lib.hid hlb
  obtain ⟨ids, hids⟩ : ∃ x, Dig.shaId V d = x := ⟨_, rfl⟩
  have hil : ids.length = 32 := by rw [← hids]; exact Dig.shaId_length _ _
  rw [hids]
  have HIL := Lib.hid hil
  have HII := Lib.hid (hi26 hil)
  have HI1 := Lib.hid (bs_one ids)
  have HISZ : Hid ((bs ids).toArray.size = 32) := Lib.hid (by simp [bs_length, hil])
  have HIA : Hid ((bs ids).toArray.all (·.oneCell') = true) := Lib.hid (all_oneCell_toArray (bs_one ids))
  have OF := Lib.hid (fun W' q k' (Bq : Blk W' q #[.slice ta tn tc] 22) => by have := of_one (V : Nat) Bq (HD.out.keep k' (by simp)); rw [hids] at this; exact this : ∀ W' q, Keep [] W W' → Blk W' q #[.slice ta tn tc] 22 → Calls Try.prog 43 #[.int .i64 (V : Nat), .slice (some ⟨q, 0, none⟩) 1 1] W' fun e w' => e = .returned (.agg (bs ids).toArray) ∧ Keep [] W' w')
  obtain ⟨X1, hX1⟩ : ∃ X, ([] : List UInt8) ++ Cod.fixB (68 : Int).toNat (1 : Int).toNat = X := ⟨_, rfl⟩
  obtain ⟨X2, hX2⟩ : ∃ X, X1 ++ Cod.numB V = X := ⟨_, rfl⟩
  obtain ⟨X3, hX3⟩ : ∃ X, X2 ++ Cod.numB Z = X := ⟨_, rfl⟩
  obtain ⟨X4, hX4⟩ : ∃ X, X3 ++ Cod.numB L = X := ⟨_, rfl⟩
  obtain ⟨X5, hX5⟩ : ∃ X, X4 ++ base.take V = X := ⟨_, rfl⟩
  obtain ⟨X6, hX6⟩ : ∃ X, X5 ++ Cod.numB tn = X := ⟨_, rfl⟩
  obtain ⟨X7, hX7⟩ : ∃ X, X6 ++ ids.take V = X := ⟨_, rfl⟩
  obtain ⟨BD, hBD⟩ : ∃ BD : Nat → List UInt8, (fun i => wrTo V Z L base tn ids m l i) = BD := ⟨_, rfl⟩
  have hX8 : X7 ++ Cod.numB m = BD 0 := by rw [← hBD]; simp only [wrTo_zero]; rw [← hX7, ← hX6, ← hX5, ← hX4, ← hX3, ← hX2, ← hX1]; rfl
  have hTO : ∀ i, (BD i).length ≤ 100 + 131080 * i := fun i => by rw [← hBD]; exact wrTo_len (by omega) (by omega) (by omega) (by omega) (by omega) hsm i
  have l8 := hTO 0
  rw [← hX8, List.length_append] at l8
  have l7 : X7.length ≤ 100 := by omega
  have l6 : X6.length ≤ 100 := by rw [← hX7, List.length_append] at l7; omega
  have l5 : X5.length ≤ 100 := by rw [← hX6, List.length_append] at l6; omega
  have l4 : X4.length ≤ 100 := by rw [← hX5, List.length_append] at l5; omega
  have l3 : X3.length ≤ 100 := by rw [← hX4, List.length_append] at l4; omega
  have l2 : X2.length ≤ 100 := by rw [← hX3, List.length_append] at l3; omega
  have l1 : X1.length ≤ 100 := by rw [← hX2, List.length_append] at l2; omega
  have HSUC := Lib.hid (show ∀ i x, l[i]? = some x → BD (i + 1) = BD i ++ stB x from fun i x h => by rw [← hBD]; exact wrTo_succ h)
  have HEND := Lib.hid (show wrB V Z L base tn ids l = sealB (BD m) by rw [← hBD, wrB, hlm])
  obtain ⟨XX, hXX⟩ : ∃ XX, wrB V Z L base tn ids l = XX := ⟨_, rfl⟩
  rw [hXX] at HEND ⊢
  have HX := Lib.hid (And.intro hX1 (And.intro hX2 (And.intro hX3 (And.intro hX4 (And.intro hX5 (And.intro hX6 (And.intro hX7 hX8)))))))
  have HLL := Lib.hid (And.intro l1 (And.intro l2 (And.intro l3 (And.intro l4 (And.intro l5 (And.intro l6 l7))))))
  have HTO := Lib.hid hTO
  have j1 : (0 : Int) ≤ V := by omega
  have j2 : (V : Int) ≤ 32 := by omega
  clear hW hd hsl hst hlm hV hZ hL hsm hcl hbase hdW hids hil hX1 hX2 hX3 hX4 hX5 hX6 hX7 hX8 l1 l2 l3 l4 l5 l6 l7 l8 hTO hBD hXX B0 hlb
  go_enter Try.func49, Try.ntmps49
  go_upto_region 1 with (first
    | (refine Go.Great.wpList_boxTo rfl 29 (.tmp 0) rfl (some 3) rfl b hb cl.toArray rfl ?_; rw [HW.out])
    | fail)
  clear hb
  go_upto_region 2 with fail
  have hwr0 : ∃ S, Cod.WrAt (W.alloc (.cells #[.int .i64 0, .int .i64 0, .slice none 0 0] 115)) W.heap.size S false [] ∧ (∀ b ∈ S, b = W.heap.size) := ⟨[W.heap.size], Cod.WrAt.new W _ rfl, by simp⟩
  have k1 : Keep [] W (W.alloc (.cells #[.int .i64 0, .int .i64 0, .slice none 0 0] 115)) := (Keep.refl [] W).alloc _
  have hsz1 : (W.alloc (.cells #[.int .i64 0, .int .i64 0, .slice none 0 0] 115)).heap.size = W.heap.size + 1 := by simp
  obtain ⟨W1, hW1⟩ : ∃ W1, W.alloc (.cells #[.int .i64 0, .int .i64 0, .slice none 0 0] 115) = W1 := ⟨_, rfl⟩
  obtain ⟨P, hP⟩ : ∃ P, W.heap.size = P := ⟨_, rfl⟩
  rw [hW1, hP] at hwr0
  rw [hW1] at k1 hsz1
  rw [hP] at hsz1
  rw [hW1, hP]
  have HP := Lib.hid hP
  have HS1 := Lib.hid hsz1
  have HW0 := Lib.hid hwr0
  have q01 := k1.cell q0 (by simp)
  have Bq : Blk (W1.alloc (.cells #[.slice ta tn tc] 22)) W1.heap.size #[.slice ta tn tc] 22 := Blk.new _ _ _
  have kq : Keep [] W1 (W1.alloc (.cells #[.slice ta tn tc] 22)) := (Keep.refl [] W1).alloc _
  have OFC := Lib.hid (OF.out _ _ (k1.trans' kq) Bq)
  clear hW1 hP hwr0 hsz1 Bq
  go_upto_region 3 with (first
    | (go_at_call 43; refine OFC.out.mono ?_; rintro e w2 ⟨rfl, k2⟩)
    | (refine Dig.wpList_store_last rfl 26 (.tmp 8) (.tmp 17) rfl _ _ (bs ids).toArray rfl rfl rfl (by rw [HISZ.out]; rfl) (by rw [HISZ.out]; rfl) HIA.out ?_)
    | fail)
  have k12 := kq.trans' k2
  have k3 : Keep [] w2 (w2.alloc (.cells (bs ids).toArray 26)) := (Keep.refl [] w2).alloc _
  have BX : Blk (w2.alloc (.cells (bs ids).toArray 26)) w2.heap.size (bs ids).toArray 26 := Blk.new _ _ _
  obtain ⟨W3, hW3⟩ : ∃ W3, w2.alloc (.cells (bs ids).toArray 26) = W3 := ⟨_, rfl⟩
  obtain ⟨px, hpx⟩ : ∃ px, w2.heap.size = px := ⟨_, rfl⟩
  rw [hW3] at k3 BX
  rw [hpx] at BX
  rw [hW3, hpx]
  have hr : WrI W W3 P [] px ids := by
    obtain ⟨S, h1, h2⟩ := HW0.out
    have h9 := HP.out
    have h8 := HS1.out
    have h7 := k12.size
    have h6 := k1.size
    exact ⟨S, (h1.keep k12 (by simp)).keep k3 (by simp), fun b hb => Or.inr (by rw [h2 b hb]; omega), (k1.trans' k12).trans' k3, fun hb => by have := h2 px hb; omega, BX.lt, rangeAt_of_blk BX⟩
  clear hW3 hpx k3 BX k12 k2 kq OFC OF q01 k1
  have C1 := Lib.hid (hr.fix X1 68 1 (by decide) (by decide) (by simp) HX.out.1)
  clear hr
  go_upto_region 4 with (first
    | (go_at_call 66; refine C1.out.mono ?_; rintro e w3 ⟨rfl, hr3⟩)
    | fail)
  have c0 := (WrI.kp hr3).cell q0 (by simp)
  have C2 := Lib.hid (hr3.num X2 V (by omega) (by have := HLL.out.1; omega) HX.out.2.1)
  clear C1 hr3
  go_upto_region 5 with (first
    | (go_at_call 67; refine C2.out.mono ?_; rintro e w4 ⟨rfl, hr4⟩)
    | fail)
  clear c0
  have c1 := (WrI.kp hr4).cell q1 (by simp)
  have C3 := Lib.hid (hr4.num X3 Z (by omega) (by have := HLL.out.2.1; omega) HX.out.2.2.1)
  clear C2 hr4
  go_upto_region 6 with (first
    | (go_at_call 67; refine C3.out.mono ?_; rintro e w5 ⟨rfl, hr5⟩)
    | fail)
  clear c1
  have c2 := (WrI.kp hr5).cell q2 (by simp)
  have C4 := Lib.hid (hr5.num X4 L (by omega) (by have := HLL.out.2.2.1; omega) HX.out.2.2.2.1)
  clear C3 hr5
  go_upto_region 7 with (first
    | (go_at_call 67; refine C4.out.mono ?_; rintro e w6 ⟨rfl, hr6⟩)
    | fail)
  clear c2
  have c0 := (WrI.kp hr6).cell q0 (by simp)
  have C5 := Lib.hid (hr6.raw X5 base b 3 V 32 q4 (by intro e; have := HLB.out; rw [e] at this; cases this) (by have := HLB.out; omega) (by have := HLL.out.2.2.2.1; omega) HX.out.2.2.2.2.1)
  clear C4 hr6
  go_upto_region 8 with (first
    | (go_at_call 68; refine C5.out.mono ?_; rintro e w7 ⟨rfl, hr7⟩)
    | fail)
  clear c0 C5
  have C6 := Lib.hid (hr7.num X6 tn (by omega) (by have := HLL.out.2.2.2.2.1; omega) HX.out.2.2.2.2.2.1)
  clear hr7
  go_upto_region 9 with (first
    | (go_at_call 67; refine C6.out.mono ?_; rintro e w8 ⟨rfl, hr8⟩)
    | fail)
  have c0 := (WrI.kp hr8).cell q0 (by simp)
  have C7 := Lib.hid (hr8.rawI X7 V 32 (by have := HIL.out; omega) (by have := HLL.out.2.2.2.2.2.1; omega) HX.out.2.2.2.2.2.2.1)
  clear C6 hr8
  go_upto_region 10 with (first
    | (go_at_call 68; refine C7.out.mono ?_; rintro e w9 ⟨rfl, hr9⟩)
    | fail)
  clear c0
  have C8 := Lib.hid (hr9.num (BD 0) m (by omega) (by have := HLL.out.2.2.2.2.2.2; omega) HX.out.2.2.2.2.2.2.2)
  clear C7 hr9
  go_upto_region 12 with (first
    | (go_at_call 67; refine C8.out.mono ?_; rintro e w10 ⟨rfl, hr10⟩)
    | fail)
  clear C8
  go_loopw [45] (fun v45 wr => ∃ i : Nat, i ≤ m ∧ v45 = .int .i64 (i : Nat) ∧ WrI W wr P (BD i) px ids) (fun v45 _ => m - (intOf v45).toNat)
  case atStart => exact ⟨0, by omega, rfl, hr10⟩
  case round =>
    clear hr10 q0 q1 q2 q4
    obtain ⟨i, hi, rfl, hr⟩ := hrel
    have hlen := HTO.out i
    by_cases hlt : i < m
    · have i3 : (0 : Int) ≤ i := by omega
      have i4 : (i : Int) < m := by omega
      have hil : i < l.length := by rw [HLM.out]; exact hlt
      obtain ⟨x, hx⟩ : ∃ x, l[i]? = some x := ⟨_, List.getElem?_eq_getElem hil⟩
      have HSI := Lib.hid (HSUC.out i x hx)
      have hxs := HSM.out x (List.mem_of_getElem? hx)
      obtain ⟨v, hv, hvx⟩ := HST.out.each i x hx
      obtain ⟨b9, o9, rfl, hc9⟩ : ∃ b off, sa = some ⟨b, off, none⟩ ∧ wr.cell? ⟨b, off + i, none⟩ = some v := by
        rcases HSL.out.use.2.2.1 with e | ⟨b, off, e, hc⟩
        · rw [e] at hv; cases hv
        · exact ⟨b, off, e, (WrI.kp hr).cell (hc i v hv) (by simp)⟩
      have HR := Lib.hid hr
      clear hil hx hv hr
      cases x with
      | cp f cn =>
        have hv0 : v = .iface 95 (.agg #[.int .i64 (f : Nat), .int .i64 (cn : Nat)]) := hvx
        subst hv0
        have hta := as95 (f : Nat) (cn : Nat)
        obtain ⟨hf1, hc1⟩ := hxs
        clear hvx
        obtain ⟨Y1, hY1⟩ : ∃ X, BD i ++ Cod.fixB (1 : Int).toNat (1 : Int).toNat = X := ⟨_, rfl⟩
        obtain ⟨Y2, hY2⟩ : ∃ X, Y1 ++ Cod.numB f = X := ⟨_, rfl⟩
        have hY3 : Y2 ++ Cod.numB cn = BD (i + 1) := by rw [HSI.out, ← hY2, ← hY1, stB]; simp [Cod.fixB]
        have m1 : Y1.length ≤ (BD i).length + 1 := by rw [← hY1, List.length_append, Cod.fixB_len]; exact Nat.le_refl _
        have m2 : Y2.length ≤ (BD i).length + 6 := by rw [← hY2, List.length_append]; have := Cod.numB_len5 hf1; omega
        go_upto_region 17 with fail
        have hk9 := WrK.of HR.out rfl #[.int .i64 (f : Nat), .int .i64 (cn : Nat)] 95
        obtain ⟨w7, hw7⟩ : ∃ W, wr.alloc (.cells #[.int .i64 (f : Nat), .int .i64 (cn : Nat)] 95) = W := ⟨_, rfl⟩
        obtain ⟨p7, hp7⟩ : ∃ p, wr.heap.size = p := ⟨_, rfl⟩
        rw [hw7, hp7] at hk9
        rw [hw7, hp7]
        clear hw7 hp7
        have C1 := Lib.hid (hk9.fix Y1 1 1 (by decide) (by decide) (by omega) hY1)
        clear hk9
        go_upto_region 18 with (first
          | (go_at_call 66; refine C1.out.mono ?_; rintro e w3 ⟨rfl, hr3⟩)
          | fail)
        have x0 := hr3.out.2.cell (i := 0) rfl
        have C2 := Lib.hid (hr3.num Y2 f hf1 (by omega) hY2)
        clear hr3 C1
        go_upto_region 19 with (first
          | (go_at_call 67; refine C2.out.mono ?_; rintro e w4 ⟨rfl, hr4⟩)
          | fail)
        clear x0
        have x1 := hr4.out.2.cell (i := 1) rfl
        have C3 := Lib.hid (hr4.num (BD (i + 1)) cn hc1 (by omega) hY3)
        clear hr4 C2
        go_wp2_with (first
          | (go_at_call 67; refine C3.out.mono ?_; rintro e w5 ⟨rfl, hr5⟩)
          | fail)
        exact ⟨⟨i + 1, by omega, by go_num, hr5.out.1⟩, by simp [intOf]; omega⟩
      | lit us =>
        obtain ⟨va, vn, vc, hv0, hIn⟩ := hvx
        subst hv0
        have hta := as97no va vn vc
        have hta2 := as97 va vn vc
        have hvn : us.length = vn := hIn.hlen
        have hus : us.length ≤ 131072 := hxs
        obtain ⟨Y1, hY1⟩ : ∃ X, BD i ++ Cod.fixB (2 : Int).toNat (1 : Int).toNat = X := ⟨_, rfl⟩
        have hY3 : Y1 ++ Cod.textB us = BD (i + 1) := by rw [HSI.out, ← hY1, stB]; simp [Cod.fixB]
        have m1 : Y1.length ≤ (BD i).length + 1 := by rw [← hY1, List.length_append, Cod.fixB_len]; exact Nat.le_refl _
        have HIN := Lib.hid hIn
        clear hIn hxs
        go_upto_region 22 with fail
        have hk9 := WrK.of HR.out rfl #[.slice va vn vc] 97
        obtain ⟨w7, hw7⟩ : ∃ W, wr.alloc (.cells #[.slice va vn vc] 97) = W := ⟨_, rfl⟩
        obtain ⟨p7, hp7⟩ : ∃ p, wr.heap.size = p := ⟨_, rfl⟩
        rw [hw7, hp7] at hk9
        rw [hw7, hp7]
        clear hw7 hp7
        have C1 := Lib.hid (hk9.fix Y1 2 1 (by decide) (by decide) (by omega) hY1)
        clear hk9
        go_upto_region 23 with (first
          | (go_at_call 66; refine C1.out.mono ?_; rintro e w3 ⟨rfl, hr3⟩)
          | fail)
        have x0 := hr3.out.2.cell (i := 0) rfl
        have C2 := Lib.hid (hr3.text (BD (i + 1)) us va vn vc HIN.out (by omega) (by omega) hY3)
        clear hr3 C1
        go_wp2_with (first
          | (go_at_call 79; refine C2.out.mono ?_; rintro e w5 ⟨rfl, hr5⟩)
          | fail)
        exact ⟨⟨i + 1, by omega, by go_num, hr5.out.1⟩, by simp [intOf]; omega⟩
    · have e : i = m := by omega
      subst e
      obtain ⟨S, hS, hF, hK, -⟩ := hr
      have C9 := Lib.hid (summed_any P S _ wr hS (by omega))
      have i2 : ¬ (i : Int) < i := by omega
      clear hS
      go_wp2_with (first
        | (go_at_call 69; refine C9.out.mono ?_; rintro e w9 ⟨a9, n9, c9, rfl, hn9, hs9, hf9, hk9⟩; have HN9 := Lib.hid hn9; clear hn9)
        | fail)
      go_returns
      have k9 : Keep [] W w9 := hK.trans hk9 (fun b hb => (hF b hb).elim (fun h => by cases h) Or.inr)
      rw [HEND.out]
      exact ⟨a9, n9, c9, rfl, HN9.out, hs9, fun b hb => (hf9 b hb).elim (fun h => by cases h) (fun h => Or.inr (Nat.le_trans (Nat.le_trans k0.size hK.size) h)), k0.trans' k9⟩
end Go.Proofs.Ytpocegdlobnhaaa
end
section
/- What Make makes (plain); steps of its walk. -/
set_option linter.unusedVariables false
set_option linter.unusedSimpArgs false
set_option maxRecDepth 100000
namespace Go.Proofs.Ytpocegdlobnhaaa
open Go.RowKit
def makO (s : Sg) (d : List UInt8) : List UInt8 × Int :=
  if mayO s = true then
    if 131072 < d.length then ([], 2)
    else if 2048 < (stP s d).length then ([], 183)
    else if 131072 < (wrB s.width.toNat s.size.toNat s.length.toNat s.base d.length (Dig.shaId s.width d) (stP s d)).length then ([], 2)
    else (wrB s.width.toNat s.size.toNat s.length.toNat s.base d.length (Dig.shaId s.width d) (stP s d), 0)
  else ([], 180)
theorem built_mk (s : Sg) (a : Option Addr) (n c : Nat) (ta : Option Addr) (tn tc r : Nat) : Try.prog.built 81 [(0, .agg (s.cells a n c).toArray), (1, .slice ta tn tc), (2, .map (some r))] = some (mkCells s a n c ta tn tc r).toArray :=
  match s with
  | ⟨w, z, l, [a0, a1, a2, a3, a4, a5, a6, a7, a8, a9, a10, a11, a12, a13, a14, a15, a16, a17, a18, a19, a20, a21, a22, a23, a24, a25, a26, a27, a28, a29, a30, a31], bl, h⟩ => by kernel_rfl
theorem wpList_built3x {P : Program} {ops : Array Oper} {rest : List Oper} {o : Oper} {a : Act} {w : World} {Q : Exit → Act → World → Prop} (hg : o.guard = none) (t : TypeId) (x y z : Operand) (ho : o.op = .build t #[(0, x), (1, y), (2, z)]) (u v s : Value) (hx : a.eval x = u) (hy : a.eval y = v) (hz : a.eval z = s) (cells : Array Value) (hb : P.built t [(0, u), (1, v), (2, s)] = some cells)
    (h : wpList P ops Q rest (a.put o.dst (.agg cells)) w) : wpList P ops Q (o :: rest) a w := wpList_built3 hg t 0 1 2 x y z ho u v s hx hy hz cells hb h
theorem Looked.run {w : World} {base r : Nat} {look : Int → List Nat} {k : Int} {v : Value} (h : Looked w base r look k v) : (Instr.lookup 79 (.map (some r)) (.int .i64 k) false).run Try.prog w = .ok v w := by
  obtain ⟨es, c, h1, h2, h3, h4, h5, h6⟩ := h
  have hc : ∀ b, (Instr.checkKey b 10000 3 (.int .i64 k)).run Try.prog w = .ok () w := fun b => run_checkKey_int w b k
  have hf := run_findKey w k es
  rcases h6 with ⟨hq, rfl⟩ | ⟨i, b, hq, he⟩
  · rw [hq] at hf
    simp only [Instr.lookup, Sem.run_bind, run_underlying under79, Result.andThen_ok, getMap h1, Sem.run_pure, hc, List.toList_toArray, hf, zero82]
    simp
  · rw [hq] at hf
    simp only [Instr.lookup, Sem.run_bind, run_underlying under79, Result.andThen_ok, getMap h1, Sem.run_pure, hc, List.toList_toArray, hf]
    simp
theorem Looked.keep {w w' : World} {base r : Nat} {look : Int → List Nat} {k : Int} {v : Value} (h : Looked w base r look k v) (kp : Keep [] w w') : Looked w' base r look k v := by
  obtain ⟨es, c, h1, h2, h3, h4, h5, h6⟩ := h
  refine ⟨es, c, h1.keep kp (by simp), fun i q v b hi => ?_, h3, h4, h5, h6⟩
  obtain ⟨a, n, cp, rfl, hn, hs⟩ := h2 i q v b hi
  exact ⟨a, n, cp, rfl, hn, hs.keep kp (by simp)⟩
section
variable {ops : Array Oper} {o : Oper} {a : Act} {w : World} {K : Act → World → Prop} {Q : Exit → Act → World → Prop} {E : Prop}
theorem step_mapUpd (hgd : o.guard = none) (m x y : Operand) (ho : o.op = .mapUpdate 79 m x y) (vm vk vv : Value) (hm : a.eval m = vm) (hx : a.eval x = vk) (hy : a.eval y = vv) (W3 : World) (hr : (Instr.mapUpdate 79 vm vk vv).run Try.prog w = .ok () W3)
    (h : K (a.put o.dst undef) W3) : if Region.wanted o (yielded ops a.tmps) = true then Oper.wp Try.prog o a w K Q else E := by
  refine step_of hgd ?_
  unfold Oper.wp execOp
  simp only [ho, hm, hx, hy, hr, Sem.run_bind, Sem.run_pure, Result.andThen_ok]
  exact h
theorem step_lookup (hgd : o.guard = none) (m x : Operand) (ho : o.op = .lookup 79 m x false) (vm vk vv : Value) (hm : a.eval m = vm) (hx : a.eval x = vk) (hr : (Instr.lookup 79 vm vk false).run Try.prog w = .ok vv w)
    (h : K (a.put o.dst vv) w) : if Region.wanted o (yielded ops a.tmps) = true then Oper.wp Try.prog o a w K Q else E := by
  refine step_of hgd ?_
  unfold Oper.wp execOp
  simp only [ho, hm, hx, hr, Sem.run_bind, Sem.run_pure, Result.andThen_ok]
  exact h
theorem step_buildI (hgd : o.guard = none) (x : Operand) (ho : o.op = .buildSlice 82 1 #[(0, x)]) (i : Int) (hx : a.eval x = .int .i64 i)
    (h : ∀ q wN, w.heap.size ≤ q → Rd wN (some ⟨q, 0, none⟩) [.int .i64 i] → Keep [] w wN → K (a.put o.dst (.slice (some ⟨q, 0, none⟩) 1 1)) wN) : if Region.wanted o (yielded ops a.tmps) = true then Oper.wp Try.prog o a w K Q else E := by
  refine step_of hgd ?_
  have info3 : (Try.prog.info? 3).map (fun i => (i.zero, i.size, i.bytes)) = some (some (.int .i64 0), 1, 8) := by kernel_rfl
  obtain ⟨j, hi, hz, hs, hb⟩ := info_parts info3
  refine wp_buildSlice 82 3 1 #[(0, x)] ho #[.int .i64 i] j (.int .i64 0) Try.underlying82 hi hz (by rw [hs]; omega) (by rw [hs]; omega) ?_ (h _ _ (Nat.le_refl _) (Rd.made w _ 3 (0, 0) _ _ rfl rfl) ((Keep.refl [] w).alloc _))
  have e1 : (Array.range (1 * j.size)).map (fun q => (Value.int IntKind.i64 0).cells[q % (Value.int IntKind.i64 0).cells.size]!) = #[(Value.int IntKind.i64 0).cells[0]!] := by
    apply Array.ext
    · simp [hs]
    · intro q h1 h2
      have hj : q = 0 := by simp at h2; exact h2
      subst hj; simp [Value.cells]
  rw [e1, hs]
  simpa [hx] using fill_v (.int .i64 i) (Value.int IntKind.i64 0).cells[0]! rfl
end
theorem info3 : (Try.prog.info? 3).map (fun i => (i.zero, i.size, i.bytes)) = some (some (.int .i64 0), 1, 8) := by kernel_rfl
theorem sl_block_ne {w : World} {e t : TypeId} {sz n b : Nat} {v : Value} {vs : List Value} {c : Array Value} (h : Sl w e sz v n vs) (hB : Blk w b c t) (het : e ≠ t) : b ∉ blks v := by
  intro hb
  obtain ⟨-, hh⟩ := h
  rcases hh with ⟨e', -⟩ | ⟨g, cap, pre, post, e', hB', -⟩
  · subst e'; simp [blks, Value.ownBlock] at hb
  · subst e'
    have e2 : b = g := by simpa [blks, Value.ownBlock] using hb
    subst e2
    exact het (hB'.eq hB).2
theorem MapOf.base0 {w : World} {base r : Nat} {look : Int → List Nat} (h : MapOf w base r look) : MapOf w 0 r look := by
  obtain ⟨es, c, h1, h2, h3, h4, h5⟩ := h
  exact ⟨es, c, h1, h2, h3, h4, fun _ _ _ _ => Nat.zero_le _⟩
end Go.Proofs.Ytpocegdlobnhaaa
end
section
/- Make: the walk. -/
set_option linter.unusedVariables false
set_option linter.unusedSimpArgs false
set_option maxRecDepth 100000
namespace Go.Proofs.Ytpocegdlobnhaaa
open Go.RowKit
theorem stP_small {s : Sg} {d : List UInt8} (hd : d.length ≤ 131072) (hb : s.blocks.length ≤ 2048) : ∀ x ∈ stP s d, x.small := by
  have hcnt : ∀ q i f j, j ≤ d.length + 1 → extF s d q i f j ≤ d.length + 1 ∨ s.size.toNat = 0 := by
    intro q i f
    induction f with
    | zero => intro j hj; exact Or.inl hj
    | succ f ih =>
      intro j hj
      rw [extF]
      split
      · rename_i hf
        by_cases hz : s.size.toNat = 0
        · exact Or.inr hz
        · have := (fitW_le hf).1
          have h2 : j ≤ j * s.size.toNat := Nat.le_mul_of_pos_right _ (by omega)
          exact ih (j + 1) (by omega)
      · exact Or.inl hj
  have hcn2 : ∀ q i, cnt s d q i ≤ 2147483647 := by
    intro q i
    have : ∀ f j, extF s d q i f j ≤ j + f := by
      intro f; induction f with
      | zero => intro j; exact Nat.le_refl _
      | succ f ih => intro j; rw [extF]; split; exact Nat.le_trans (ih (j + 1)) (by omega); omega
    have := this (d.length + 1) 1
    unfold cnt; omega
  have hlit : ∀ p q, ∀ x ∈ litP d p q, x.small := by
    intro p q x hx
    unfold litP at hx
    split at hx
    · obtain rfl : x = _ := by simpa using hx
      show ((d.drop p).take (q - p)).length ≤ 131072
      rw [List.length_take, List.length_drop]; omega
    · cases hx
  have hhit : ∀ q, (hitI s d q).toNat ≤ 2147483647 := by
    intro q
    unfold hitI firstI
    cases hf : firstO s d q (Rol.sumOf (winF d s.size.toNat q)) with
    | none => simp
    | some v =>
      have hv := List.mem_of_find?_eq_some hf
      have := groups_lt hv
      simp only [Int.toNat_natCast]; omega
  have main : ∀ f p q, ∀ x ∈ stF s d f p q, x.small := by
    intro f
    induction f with
    | zero => intro p q x hx; cases hx
    | succ f ih =>
      intro p q x hx
      rw [stF] at hx
      split at hx
      · split at hx
        · exact ih _ _ x hx
        · rcases List.mem_append.1 hx with h | h
          · exact hlit _ _ x h
          · rcases List.mem_cons.1 h with h | h
            · subst h; exact ⟨hhit q, hcn2 _ _⟩
            · exact ih _ _ x h
      · exact hlit _ _ x hx
  exact main _ _ _
set_option maxHeartbeats 8000000 in
theorem make_any (s : Sg) (a : Option Addr) (n c : Nat) (ta : Option Addr) (tn tc : Nat) (d : List UInt8) (w : World) (hx : WsIn w a n c s.blocks) (hd : InBytes w ta tn tc d) :
    Calls Try.prog 22 #[.agg (s.cells a n c).toArray, .slice ta tn tc] w (GiveB w (makO s d).1 (makO s d).2) := by
  have B0 : Blk (w.alloc (.cells (s.cells a n c).toArray 29)) w.heap.size (s.cells a n c).toArray 29 := Blk.new _ _ _
  have k0 : Keep [] w (w.alloc (.cells (s.cells a n c).toArray 29)) := (Keep.refl [] w).alloc _
  obtain ⟨W, hW⟩ : ∃ W, w.alloc (.cells (s.cells a n c).toArray 29) = W := ⟨_, rfl⟩
  obtain ⟨b, hb⟩ : ∃ b, w.heap.size = b := ⟨_, rfl⟩
  rw [hW, hb] at B0
  rw [hW] at k0
  have HW := Lib.hid hW
  have hxW := hx.keep k0 (by simp)
  have hdW := hd.keep k0 (by simp)
  have HMAY := Lib.hid (may_any s a n c W hxW)
  have hbl := hx.hlen
  have hl := hd.hlen
  have HI := Lib.hid (hi29 s a n c)
  have HBM := Lib.hid (fun r => built_mk s a n c ta tn tc r)
  have HCS := Lib.hid (rfl : s.cells a n c = s.cells a n c)
  obtain ⟨cl, hcl⟩ : ∃ cl, s.cells a n c = cl := ⟨_, rfl⟩
  rw [hcl] at HW HMAY HI HBM ⊢
  have rA : W.rangeAt b 0 cl := by rw [← hcl]; exact rangeAt_of_blk B0
  have q35 := sg_blocks B0
  obtain ⟨mz, hmz⟩ : ∃ mz, mayO s = mz := ⟨_, rfl⟩
  rw [hmz] at HMAY
  have HCL := Lib.hid hcl
  clear hW hx hd hcl
  cases mz with
  | false =>
    have HR := Lib.hid (show makO s d = ([], 180) by rw [makO, if_neg (by rw [hmz]; simp)])
    clear hmz
    go_enter Try.func22, Try.ntmps22
    go_upto_region 1 with (first
      | (refine Go.Great.wpList_boxTo rfl 29 (.tmp 0) rfl (some 2) rfl b hb cl.toArray rfl ?_; rw [HW.out])
      | fail)
    go_wp2_with (first
      | (refine wpList_load_mid rfl 29 (.tmp 2) rfl b 0 rfl cl _ rA Try.underlying29 rfl HI.out ?_)
      | (go_at_call 47; refine HMAY.out.mono ?_; rintro e w1 ⟨rfl, hk1⟩)
      | fail)
    go_returns
    rw [HR.out]
    exact nilB (k0.trans' hk1)
  | true =>
  have hms := hmz
  obtain ⟨wd, sz, ln, bse, bl, lb⟩ := s
  obtain ⟨⟨V, Z, L, hV, hZ, hLn, hV1, hV2, hZ2, hL2⟩, hbl2, -⟩ := mayO_num hmz
  subst hV hZ hLn
  have hZ16 : 16 ≤ Z := by
    have := hmz
    simp only [mayO, mayH, okS, Bool.and_eq_true, decide_eq_true_eq] at this
    omega
  obtain ⟨s, hs⟩ : ∃ s, Sg.mk (V : Int) Z L bse bl lb = s := ⟨_, rfl⟩
  rw [hs] at HBM HCL hms ⊢
  have hsV : s.width = V := by rw [← hs]
  have hsZ : s.size = Z := by rw [← hs]
  have hsL : s.length = L := by rw [← hs]
  have hsB : s.blocks = bl := by rw [← hs]
  have HV := Lib.hid hsV
  have HZ := Lib.hid hsZ
  have HLn := Lib.hid hsL
  simp only at hxW hbl q35 hbl2
  rw [← hsB] at hxW hbl hbl2
  have hbn : n ≤ 2048 := by rw [← hbl]; exact hbl2
  have HX := Lib.hid hxW
  have HD := Lib.hid hdW
  have HBL := Lib.hid hbl
  have HL := Lib.hid hl
  have HMO := Lib.hid (show makO s d = if 131072 < tn then ([], 2) else if 2048 < (stP s d).length then ([], 183) else if 131072 < (wrB V Z L s.base tn (Dig.shaId V d) (stP s d)).length then ([], 2) else (wrB V Z L s.base tn (Dig.shaId V d) (stP s d), 0) by
    rw [makO, if_pos hms, hl, hsV, hsZ, hsL]; simp only [Int.toNat_natCast])
  clear hs hsV hsZ hsL hsB hmz hms hxW hdW hbl hl hbl2 B0
  by_cases h1 : 131072 < tn
  · have d1 : decide ((131072 : Int) < tn) = true := decide_eq_true (by omega)
    have HR := Lib.hid (show makO s d = ([], 2) by rw [HMO.out, if_pos h1])
    go_enter Try.func22, Try.ntmps22
    go_upto_region 1 with (first
      | (refine Go.Great.wpList_boxTo rfl 29 (.tmp 0) rfl (some 2) rfl b hb cl.toArray rfl ?_; rw [HW.out])
      | fail)
    go_wp2_with (first
      | (refine wpList_load_mid rfl 29 (.tmp 2) rfl b 0 rfl cl _ rA Try.underlying29 rfl HI.out ?_)
      | (go_at_call 47; refine HMAY.out.mono ?_; rintro e w1 ⟨rfl, hk1⟩)
      | fail)
    go_returns
    rw [HR.out]
    exact nilB (k0.trans' hk1)
  have d1 : decide ((131072 : Int) < tn) = false := decide_eq_false (by omega)
  have htn : tn ≤ 131072 := by omega
  have hmk : ∀ W, (Instr.makeMap 79 none).run Try.prog W = .ok (.map (some W.heap.size)) (W.alloc (.map #[] 0)) := fun W => rfl
  have HMO2 := Lib.hid (show makO s d = if 2048 < (stP s d).length then ([], 183) else if 131072 < (wrB V Z L s.base tn (Dig.shaId V d) (stP s d)).length then ([], 2) else (wrB V Z L s.base tn (Dig.shaId V d) (stP s d), 0) by rw [HMO.out, if_neg h1])
  clear HMO h1
  go_enter Try.func22, Try.ntmps22
  go_upto_region 1 with (first
    | (refine Go.Great.wpList_boxTo rfl 29 (.tmp 0) rfl (some 2) rfl b hb cl.toArray rfl ?_; rw [HW.out])
    | fail)
  go_upto_region 5 with (first
    | (refine wpList_load_mid rfl 29 (.tmp 2) rfl b 0 rfl cl _ rA Try.underlying29 rfl HI.out ?_)
    | (go_at_call 47; refine HMAY.out.mono ?_; rintro e w1 ⟨rfl, hk1⟩)
    | fail)
  have rA1 := rangeAt_keep rA hk1 (by simp)
  have hM0 : ∀ base, MapOf (w1.alloc (.map #[] 0)) base w1.heap.size (groups s.blocks 0) := fun base => by rw [groups_zero]; exact MapOf.new w1 base
  have km : Keep [] w1 (w1.alloc (.map #[] 0)) := (Keep.refl [] w1).alloc _
  obtain ⟨W2, hW2⟩ : ∃ W2, w1.alloc (.map #[] 0) = W2 := ⟨_, rfl⟩
  obtain ⟨r, hr⟩ : ∃ r, w1.heap.size = r := ⟨_, rfl⟩
  rw [hW2, hr] at hM0
  rw [hW2] at km
  obtain ⟨M, hM⟩ : ∃ M, W2.heap.size = M := ⟨_, rfl⟩
  have HBR := Lib.hid (HBM.out r)
  obtain ⟨mc, hmc⟩ : ∃ mc, mkCells s a n c ta tn tc r = mc := ⟨_, rfl⟩
  rw [hmc] at HBR
  have HMC := Lib.hid hmc
  have HW2 := Lib.hid hW2
  have HRR := Lib.hid hr
  have hwr : w.heap.size ≤ r := by have := (k0.trans' hk1).size; omega
  clear hW2 hr hmc
  go_upto_region 6 with (first
    | (refine wpList_load_mid rfl 29 (.tmp 2) rfl b 0 rfl cl _ rA1 Try.underlying29 rfl HI.out ?_)
    | (simp only [hmk, HW2.out, HRR.out])
    | (refine wpList_built3x rfl 81 (.tmp 20) (.tmp 21) (.tmp 22) rfl (.agg cl.toArray) (.slice ta tn tc) (.map (some r)) rfl rfl rfl mc.toArray HBR.out ?_)
    | (refine Go.Great.wpList_boxTo rfl 81 (.tmp 23) rfl (some 24) rfl M hM mc.toArray rfl ?_)
    | fail)
  have BM : Blk (W2.alloc (.cells mc.toArray 81)) M mc.toArray 81 := Blk.new' _ _ _ hM.symm
  have k3 : Keep [] W2 (W2.alloc (.cells mc.toArray 81)) := (Keep.refl [] W2).alloc _
  obtain ⟨W3, hW3⟩ : ∃ W3, W2.alloc (.cells mc.toArray 81) = W3 := ⟨_, rfl⟩
  rw [hW3] at BM k3 ⊢
  have hM3 := (hM0 W3.heap.size).keep k3 (by simp) (by simp)
  have hrM : r ≠ M := by have := (hM0 0).lt; omega
  have kW3 := (hk1.trans' km).trans' k3
  have q35' := kW3.cell q35 (by simp)
  have g37 : W3.cell? ⟨M, 37, none⟩ = some (.map (some r)) := BM.cell (by rw [← HMC.out, List.getElem?_toArray]; exact mk_m)
  have hrb : r ≠ b := by have := k0.size; have := hk1.size; have := HRR.out; have : b < W.heap.size := World.block_lt_of_cell? W (a := ⟨b, 35, none⟩) q35; omega
  have hWr : W.heap.size ≤ r := by have := hk1.size; have := HRR.out; omega
  have HKW3 := Lib.hid kW3
  have rA3 := rangeAt_keep rA kW3 (by simp)
  have HBMM := Lib.hid BM
  clear hW3 hM hM0 km k3 rA1 rA BM HBR hmk q35 kW3
  go_upto_region 7 with fail
  obtain ⟨N, hN, hso⟩ := size45
  have HN := Lib.hid hN
  clear hN
  go_loopw [28] (fun v28 wr => ∃ i : Nat, i ≤ n ∧ v28 = .int .i64 (i : Nat) ∧ MapOf wr W3.heap.size r (groups s.blocks i) ∧ Keep [r] W3 wr) (fun v28 _ => n - (intOf v28).toNat)
  case atStart => exact ⟨0, by omega, rfl, hM3, Keep.refl _ _⟩
  case round =>
    clear hM3
    obtain ⟨i, hi, rfl, hMi, kr⟩ := hrel
    have kWr : Keep [] W wr := HKW3.out.trans kr (fun b hb => by simp only [List.mem_singleton] at hb; subst hb; exact Or.inr hWr)
    have KWR := Lib.hid kWr
    by_cases hlt : i < n
    · obtain ⟨x, g, off, ex, rfl, rx⟩ := (HX.out.keep kWr (by simp)).at hlt
      have i3 : (0 : Int) ≤ i := by omega
      have i4 : (i : Int) < n := by omega
      rw [HN.out] at rx
      have HX33 := Lib.hid (show x.cells.toArray.size = 33 by simpa using x.len)
      have HGS := Lib.hid (groups_succ ex)
      have HGL := Lib.hid (groups_le s.blocks i x.sum)
      have HMI := Lib.hid hMi
      clear ex kWr hMi
      go_upto_region 9 with (first
        | (refine wpList_load_mid rfl 45 (.tmp 31) rfl g (off + i * N) rfl x.cells _ rx Try.underlying45 rfl (hi45 x) ?_)
        | (refine Dig.wpList_store_last rfl 45 (.tmp 8) (.tmp 32) rfl _ _ x.cells.toArray rfl rfl rfl (by rw [HX33.out]; rfl) (by rw [HX33.out]; rfl) (wk_all x) ?_)
        | fail)
      have BX : Blk (wr.alloc (.cells x.cells.toArray 45)) wr.heap.size x.cells.toArray 45 := Blk.new _ _ _
      have k1 : Keep [] wr (wr.alloc (.cells x.cells.toArray 45)) := (Keep.refl [] wr).alloc _
      obtain ⟨W4, hW4⟩ : ∃ W, wr.alloc (.cells x.cells.toArray 45) = W := ⟨_, rfl⟩
      obtain ⟨px, hpx⟩ : ∃ P, wr.heap.size = P := ⟨_, rfl⟩
      rw [hW4] at k1 BX ⊢
      rw [hpx] at BX ⊢
      have hM4 := HMI.out.keep k1 (by simp) (by simp)
      have hpr : px ≠ r := by have := HMI.out.lt; omega
      have cs := rangeAt_sum (rangeAt_of_blk BX)
      have g37x := k1.cell (kr.cell g37 (by simpa using hrM.symm)) (by simp)
      have k14 := kr.trans' k1
      obtain ⟨u, hu⟩ : ∃ u, x.sum = u := ⟨_, rfl⟩
      rw [hu] at cs HGS HGL
      obtain ⟨la, lm, lc, -, hlm, hsl, hlo, hLK⟩ := hM4.looked u
      have hlm2 : lm ≤ 2048 := by rw [← hlm]; exact Nat.le_trans HGL.out (by omega)
      have HLM := Lib.hid hlm
      have HLO := Lib.hid hlo
      have HLK := Lib.hid hLK
      have HSL := Lib.hid hsl
      have hnX : px ∉ blks (.slice la lm lc) := sl_block_ne hsl BX (by decide)
      have hnM : M ∉ blks (.slice la lm lc) := sl_block_ne hsl (HBMM.out.keep k14 (by simpa using hrM.symm)) (by decide)
      have HB1 := Lib.hid (show (lm + 1) * 8 ≤ 140737488355328 ∧ lm + 1 ≤ maxLen by simp only [maxLen]; omega)
      clear hW4 hpx hu hlm hlo hLK hsl hM4 k1 BX rx
      have HBS := Lib.hid k14.size
      have ke : Keep [] W4 W4.drew := (Keep.refl [] W4).drew
      have gM := ke.cell g37x (by simp)
      have gX := ke.cell cs (by simp)
      refine wp_region_noPanic ?_
      refine wp_region_held_drew (S := fun w' => w'.cell? ⟨M, 37, none⟩ = some (.map (some r)) ∧ w'.cell? ⟨px, 0, none⟩ = some (.int .i64 u)) (by kernel_rfl) ?_ (fun hHeld0 => ?_)
      · (try dsimp only); exact ⟨gM, gX⟩
      refine wpAnyH_take (i := 0) (oi := ({ dst := some 33, op := .move (.tmp 6), type := 78, pos := "make.go:102", after := #[], guard := none } : Oper)) (v := ?_) rfl (by kernel_rfl) (by kernel_rfl) (by kernel_rfl) (fun _ _ _ h => h) (Or.inl ⟨by rfl, ?_⟩) (by assumption) ?_
      rotate_left
      · (intro w hSw; (try dsimp only at hSw); go_simp; try with_reducible rfl)
      try simp only [Act.put, List.setIfInBounds_toArray, List.set_cons_zero, List.set_cons_succ]
      refine wpAnyH_take (i := 1) (oi := ({ dst := some 34, op := .nilCheck (.tmp 33), type := 0, pos := "make.go:102", after := #[{ on := 0, ground := .data }], guard := none } : Oper)) (v := ?_) rfl (by kernel_rfl) (by kernel_rfl) (by kernel_rfl) (fun _ _ _ h => h) (Or.inl ⟨by rfl, ?_⟩) (by assumption) ?_
      rotate_left
      · (intro w hSw; (try dsimp only at hSw); go_simp; try with_reducible rfl)
      try simp only [Act.put, List.setIfInBounds_toArray, List.set_cons_zero, List.set_cons_succ]
      refine wpAnyH_take (i := 2) (oi := ({ dst := some 35, op := .fieldAddr 81 (.tmp 34) 2, type := 0, pos := "make.go:102", after := #[{ on := 1, ground := .data }], guard := none } : Oper)) (v := ?_) rfl (by kernel_rfl) (by kernel_rfl) (by kernel_rfl) (fun _ _ _ h => h) (Or.inl ⟨by rfl, ?_⟩) (by assumption) ?_
      rotate_left
      · (intro w hSw; (try dsimp only at hSw); go_simp; try with_reducible rfl)
      try simp only [Act.put, List.setIfInBounds_toArray, List.set_cons_zero, List.set_cons_succ]
      refine wpAnyH_take (i := 3) (oi := ({ dst := some 36, op := .load 79 (.tmp 35), type := 79, pos := "make.go:102", after := #[{ on := 2, ground := .data }], guard := none } : Oper)) (v := ?_) rfl (by kernel_rfl) (by kernel_rfl) (by kernel_rfl) (fun _ _ _ h => h) (Or.inl ⟨by rfl, ?_⟩) (by assumption) ?_
      rotate_left
      · (intro w hSw; (try dsimp only at hSw); have q1 := hSw.1; go_simp; try with_reducible rfl)
      try simp only [Act.put, List.setIfInBounds_toArray, List.set_cons_zero, List.set_cons_succ]
      refine wpAnyH_take (i := 4) (oi := ({ dst := some 37, op := .fieldAddr 45 (.tmp 8) 0, type := 0, pos := "make.go:102", after := #[], guard := none } : Oper)) (v := ?_) rfl (by kernel_rfl) (by kernel_rfl) (by kernel_rfl) (fun _ _ _ h => h) (Or.inl ⟨by rfl, ?_⟩) (by assumption) ?_
      rotate_left
      · (intro w hSw; (try dsimp only at hSw); go_simp; try with_reducible rfl)
      try simp only [Act.put, List.setIfInBounds_toArray, List.set_cons_zero, List.set_cons_succ]
      refine wpAnyH_take (i := 5) (oi := ({ dst := some 38, op := .load 3 (.tmp 37), type := 3, pos := "make.go:102", after := #[{ on := 4, ground := .data }], guard := none } : Oper)) (v := ?_) rfl (by kernel_rfl) (by kernel_rfl) (by kernel_rfl) (fun _ _ _ h => h) (Or.inl ⟨by rfl, ?_⟩) (by assumption) ?_
      rotate_left
      · (intro w hSw; (try dsimp only at hSw); have q1 := hSw.2; go_simp; try with_reducible rfl)
      try simp only [Act.put, List.setIfInBounds_toArray, List.set_cons_zero, List.set_cons_succ]
      refine wpAnyH_take (i := 6) (oi := ({ dst := some 39, op := .move (.tmp 6), type := 78, pos := "make.go:102", after := #[], guard := none } : Oper)) (v := ?_) rfl (by kernel_rfl) (by kernel_rfl) (by kernel_rfl) (fun _ _ _ h => h) (Or.inl ⟨by rfl, ?_⟩) (by assumption) ?_
      rotate_left
      · (intro w hSw; (try dsimp only at hSw); go_simp; try with_reducible rfl)
      try simp only [Act.put, List.setIfInBounds_toArray, List.set_cons_zero, List.set_cons_succ]
      refine wpAnyH_take (i := 7) (oi := ({ dst := some 40, op := .nilCheck (.tmp 39), type := 0, pos := "make.go:102", after := #[{ on := 6, ground := .data }], guard := none } : Oper)) (v := ?_) rfl (by kernel_rfl) (by kernel_rfl) (by kernel_rfl) (fun _ _ _ h => h) (Or.inl ⟨by rfl, ?_⟩) (by assumption) ?_
      rotate_left
      · (intro w hSw; (try dsimp only at hSw); go_simp; try with_reducible rfl)
      try simp only [Act.put, List.setIfInBounds_toArray, List.set_cons_zero, List.set_cons_succ]
      refine wpAnyH_take (i := 8) (oi := ({ dst := some 41, op := .fieldAddr 81 (.tmp 40) 2, type := 0, pos := "make.go:102", after := #[{ on := 7, ground := .data }], guard := none } : Oper)) (v := ?_) rfl (by kernel_rfl) (by kernel_rfl) (by kernel_rfl) (fun _ _ _ h => h) (Or.inl ⟨by rfl, ?_⟩) (by assumption) ?_
      rotate_left
      · (intro w hSw; (try dsimp only at hSw); go_simp; try with_reducible rfl)
      try simp only [Act.put, List.setIfInBounds_toArray, List.set_cons_zero, List.set_cons_succ]
      refine wpAnyH_take (i := 9) (oi := ({ dst := some 42, op := .load 79 (.tmp 41), type := 79, pos := "make.go:102", after := #[{ on := 8, ground := .data }], guard := none } : Oper)) (v := ?_) rfl (by kernel_rfl) (by kernel_rfl) (by kernel_rfl) (fun _ _ _ h => h) (Or.inl ⟨by rfl, ?_⟩) (by assumption) ?_
      rotate_left
      · (intro w hSw; (try dsimp only at hSw); have q1 := hSw.1; go_simp; try with_reducible rfl)
      try simp only [Act.put, List.setIfInBounds_toArray, List.set_cons_zero, List.set_cons_succ]
      refine wpAnyH_take (i := 10) (oi := ({ dst := some 43, op := .fieldAddr 45 (.tmp 8) 0, type := 0, pos := "make.go:102", after := #[], guard := none } : Oper)) (v := ?_) rfl (by kernel_rfl) (by kernel_rfl) (by kernel_rfl) (fun _ _ _ h => h) (Or.inl ⟨by rfl, ?_⟩) (by assumption) ?_
      rotate_left
      · (intro w hSw; (try dsimp only at hSw); go_simp; try with_reducible rfl)
      try simp only [Act.put, List.setIfInBounds_toArray, List.set_cons_zero, List.set_cons_succ]
      refine wpAnyH_take (i := 11) (oi := ({ dst := some 44, op := .load 3 (.tmp 43), type := 3, pos := "make.go:102", after := #[{ on := 10, ground := .data }], guard := none } : Oper)) (v := ?_) rfl (by kernel_rfl) (by kernel_rfl) (by kernel_rfl) (fun _ _ _ h => h) (Or.inl ⟨by rfl, ?_⟩) (by assumption) ?_
      rotate_left
      · (intro w hSw; (try dsimp only at hSw); have q1 := hSw.2; go_simp; try with_reducible rfl)
      try simp only [Act.put, List.setIfInBounds_toArray, List.set_cons_zero, List.set_cons_succ]
      refine wpAnyH_take (i := 13) (oi := ({ dst := some 46, op := .move (.tmp 7), type := 3, pos := "make.go:102", after := #[], guard := none } : Oper)) (v := ?_) rfl (by kernel_rfl) (by kernel_rfl) (by kernel_rfl) (fun _ _ _ h => h) (Or.inl ⟨by rfl, ?_⟩) (by assumption) ?_
      rotate_left
      · (intro w hSw; (try dsimp only at hSw); go_simp; try with_reducible rfl)
      try simp only [Act.put, List.setIfInBounds_toArray, List.set_cons_zero, List.set_cons_succ]
      refine wpAnyH_ready (rs := [12, 14]) (by kernel_rfl) (by simp) ?_
      refine (AllReadyH.cons (o := ({ dst := some 45, op := .lookup 79 (.tmp 42) (.tmp 44) false, type := 82, pos := "make.go:102", after := #[{ on := 9, ground := .data }, { on := 11, ground := .data }], guard := none } : Oper)) rfl (fun K hK => ?_) (AllReadyH.cons (o := ({ dst := some 47, op := .buildSlice 82 1 #[(0, .tmp 46)], type := 82, pos := "make.go:102", after := #[{ on := 13, ground := .data }], guard := none } : Oper)) rfl (fun K hK => ?_) AllReadyH.nil))
      · (refine step_lookup rfl (.tmp 42) (.tmp 44) rfl (.map (some r)) (.int .i64 u) (.slice la lm lc) rfl rfl (HLK.out.keep ke).run ?_)
        refine hK.out _ _ ?_ (fun hHeld1 => ?_)
        · (try dsimp only); exact ⟨gM, gX⟩
        clear hK K
        try simp only [Act.put, List.setIfInBounds_toArray, List.set_cons_zero, List.set_cons_succ]
        refine wpAnyH_ready (rs := [14]) (by kernel_rfl) (by simp) ?_
        refine (AllReadyH.cons (o := ({ dst := some 47, op := .buildSlice 82 1 #[(0, .tmp 46)], type := 82, pos := "make.go:102", after := #[{ on := 13, ground := .data }], guard := none } : Oper)) rfl (fun K hK => ?_) AllReadyH.nil)
        (refine step_buildI rfl (.tmp 46) rfl (i : Nat) rfl ?_; intro q wN hq Rq kn; have ke := ke.trans' kn; have gM := kn.cell gM (by simp); have gX := kn.cell gX (by simp))
        refine hK.out _ _ ?_ (fun hHeld2 => ?_)
        · (try dsimp only); exact ⟨gM, gX⟩
        clear hK K
        try simp only [Act.put, List.setIfInBounds_toArray, List.set_cons_zero, List.set_cons_succ]
        refine wpAnyH_ready (rs := [15]) (by kernel_rfl) (by simp) ?_
        refine (AllReadyH.cons (o := ({ dst := some 48, op := .call { callee := .builtin .append, args := #[.tmp 45, .tmp 47], argTypes := #[82, 82] }, type := 82, pos := "make.go:102", after := #[{ on := 12, ground := .data }, { on := 14, ground := .data }], guard := none } : Oper)) rfl (fun K hK => ?_) AllReadyH.nil)
        (refine step_appendN rfl (.tmp 45) (.tmp 47) 82 rfl 3 _ 1 8 Try.underlying82 info3 rfl (by omega) (.slice la lm lc) lm _ rfl (HSL.out.keep ke (by simp)) (some ⟨q, 0, none⟩) 1 1 [.int .i64 (i : Nat)] rfl rfl (by simp) Rq (by simp [Value.oneCell']) HB1.out.2 HB1.out.1 ?_; intro a6 c6 w6 hs6 hk6 hf6; have gM := hk6.cell gM hnM; have gX := hk6.cell gX hnX)
        refine hK.out _ _ ?_ (fun hHeld3 => ?_)
        · (try dsimp only); exact ⟨gM, gX⟩
        clear hK K
        try simp only [Act.put, List.setIfInBounds_toArray, List.set_cons_zero, List.set_cons_succ]
        refine wpAnyH_ready (rs := [16]) (by kernel_rfl) (by simp) ?_
        refine (AllReadyH.cons (o := ({ dst := none, op := .mapUpdate 79 (.tmp 36) (.tmp 38) (.tmp 48), type := 0, pos := "make.go:102", after := #[{ on := 3, ground := .data }, { on := 5, ground := .data }, { on := 15, ground := .data }, { on := 15, ground := .chain }, { on := 0, ground := .phase }, { on := 1, ground := .phase }, { on := 2, ground := .phase }, { on := 3, ground := .phase }, { on := 4, ground := .phase }, { on := 5, ground := .phase }, { on := 6, ground := .phase }, { on := 7, ground := .phase }, { on := 8, ground := .phase }, { on := 9, ground := .phase }, { on := 10, ground := .phase }, { on := 11, ground := .phase }, { on := 12, ground := .phase }, { on := 13, ground := .phase }, { on := 14, ground := .phase }, { on := 15, ground := .phase }], guard := none } : Oper)) rfl (fun K hK => ?_) AllReadyH.nil)
        (obtain ⟨W6, hrun, hM6, k6⟩ := HLK.out.put ke hk6 hf6 (i := i) (by rw [ints, List.map_append]; exact hs6) HLM.out HBS.out; have gM := k6.cell gM (by simpa using hrM.symm); have gX := k6.cell gX (by simpa using hpr); refine step_mapUpd rfl (.tmp 36) (.tmp 38) (.tmp 48) rfl (.map (some r)) (.int .i64 u) (.slice a6 (lm + 1) c6) rfl rfl rfl W6 hrun ?_)
        refine hK.out _ _ ?_ (fun hHeld4 => ?_)
        · (try dsimp only); exact ⟨gM, gX⟩
        clear hK K
        try simp only [Act.put, List.setIfInBounds_toArray, List.set_cons_zero, List.set_cons_succ]
        refine wpAnyH_done (by kernel_rfl) ?_ _
        refine NoPanic.normal ?_
        rw [← HGS.out] at hM6
        have kf : Keep [r] W3 W6 := ((k14.trans' ke).trans hk6 (fun b hb => Or.inr (HLO.out b hb).1)).trans k6 (fun b hb => Or.inl hb)
        go_wp2_with fail
        exact ⟨⟨i + 1, by omega, by go_num, hM6, kf⟩, by simp [intOf]; omega⟩
      · (refine step_buildI rfl (.tmp 46) rfl (i : Nat) rfl ?_; intro q wN hq Rq kn; have ke := ke.trans' kn; have gM := kn.cell gM (by simp); have gX := kn.cell gX (by simp))
        refine hK.out _ _ ?_ (fun hHeld4 => ?_)
        · (try dsimp only); exact ⟨gM, gX⟩
        clear hK K
        try simp only [Act.put, List.setIfInBounds_toArray, List.set_cons_zero, List.set_cons_succ]
        refine wpAnyH_ready (rs := [12]) (by kernel_rfl) (by simp) ?_
        refine (AllReadyH.cons (o := ({ dst := some 45, op := .lookup 79 (.tmp 42) (.tmp 44) false, type := 82, pos := "make.go:102", after := #[{ on := 9, ground := .data }, { on := 11, ground := .data }], guard := none } : Oper)) rfl (fun K hK => ?_) AllReadyH.nil)
        (refine step_lookup rfl (.tmp 42) (.tmp 44) rfl (.map (some r)) (.int .i64 u) (.slice la lm lc) rfl rfl (HLK.out.keep ke).run ?_)
        refine hK.out _ _ ?_ (fun hHeld5 => ?_)
        · (try dsimp only); exact ⟨gM, gX⟩
        clear hK K
        try simp only [Act.put, List.setIfInBounds_toArray, List.set_cons_zero, List.set_cons_succ]
        refine wpAnyH_ready (rs := [15]) (by kernel_rfl) (by simp) ?_
        refine (AllReadyH.cons (o := ({ dst := some 48, op := .call { callee := .builtin .append, args := #[.tmp 45, .tmp 47], argTypes := #[82, 82] }, type := 82, pos := "make.go:102", after := #[{ on := 12, ground := .data }, { on := 14, ground := .data }], guard := none } : Oper)) rfl (fun K hK => ?_) AllReadyH.nil)
        (refine step_appendN rfl (.tmp 45) (.tmp 47) 82 rfl 3 _ 1 8 Try.underlying82 info3 rfl (by omega) (.slice la lm lc) lm _ rfl (HSL.out.keep ke (by simp)) (some ⟨q, 0, none⟩) 1 1 [.int .i64 (i : Nat)] rfl rfl (by simp) Rq (by simp [Value.oneCell']) HB1.out.2 HB1.out.1 ?_; intro a6 c6 w6 hs6 hk6 hf6; have gM := hk6.cell gM hnM; have gX := hk6.cell gX hnX)
        refine hK.out _ _ ?_ (fun hHeld6 => ?_)
        · (try dsimp only); exact ⟨gM, gX⟩
        clear hK K
        try simp only [Act.put, List.setIfInBounds_toArray, List.set_cons_zero, List.set_cons_succ]
        refine wpAnyH_ready (rs := [16]) (by kernel_rfl) (by simp) ?_
        refine (AllReadyH.cons (o := ({ dst := none, op := .mapUpdate 79 (.tmp 36) (.tmp 38) (.tmp 48), type := 0, pos := "make.go:102", after := #[{ on := 3, ground := .data }, { on := 5, ground := .data }, { on := 15, ground := .data }, { on := 15, ground := .chain }, { on := 0, ground := .phase }, { on := 1, ground := .phase }, { on := 2, ground := .phase }, { on := 3, ground := .phase }, { on := 4, ground := .phase }, { on := 5, ground := .phase }, { on := 6, ground := .phase }, { on := 7, ground := .phase }, { on := 8, ground := .phase }, { on := 9, ground := .phase }, { on := 10, ground := .phase }, { on := 11, ground := .phase }, { on := 12, ground := .phase }, { on := 13, ground := .phase }, { on := 14, ground := .phase }, { on := 15, ground := .phase }], guard := none } : Oper)) rfl (fun K hK => ?_) AllReadyH.nil)
        (obtain ⟨W6, hrun, hM6, k6⟩ := HLK.out.put ke hk6 hf6 (i := i) (by rw [ints, List.map_append]; exact hs6) HLM.out HBS.out; have gM := k6.cell gM (by simpa using hrM.symm); have gX := k6.cell gX (by simpa using hpr); refine step_mapUpd rfl (.tmp 36) (.tmp 38) (.tmp 48) rfl (.map (some r)) (.int .i64 u) (.slice a6 (lm + 1) c6) rfl rfl rfl W6 hrun ?_)
        refine hK.out _ _ ?_ (fun hHeld7 => ?_)
        · (try dsimp only); exact ⟨gM, gX⟩
        clear hK K
        try simp only [Act.put, List.setIfInBounds_toArray, List.set_cons_zero, List.set_cons_succ]
        refine wpAnyH_done (by kernel_rfl) ?_ _
        refine NoPanic.normal ?_
        rw [← HGS.out] at hM6
        have kf : Keep [r] W3 W6 := ((k14.trans' ke).trans hk6 (fun b hb => Or.inr (HLO.out b hb).1)).trans k6 (fun b hb => Or.inl hb)
        go_wp2_with fail
        exact ⟨⟨i + 1, by omega, by go_num, hM6, kf⟩, by simp [intOf]; omega⟩
    · obtain rfl : i = n := by omega
      have i2 : ¬ (i : Int) < i := by omega
      have hMK : MkAt wr M s a i c ta tn tc d r := ⟨by rw [HMC.out]; exact HBMM.out.keep kr (by simpa using hrM.symm), HX.out.keep kWr (by simp), HD.out.keep kWr (by simp), hMi.base0⟩
      have ST := Lib.hid (steps_any M s a i c ta tn tc d r V Z wr hMK HV.out HZ.out ⟨hV1, hV2⟩ ⟨hZ16, hZ2⟩ htn hbn)
      obtain ⟨T, hT⟩ : ∃ T, stP s d = T := ⟨_, rfl⟩
      rw [hT] at ST
      have HT := Lib.hid hT
      have HSMALL := Lib.hid (show ∀ x ∈ T, x.small by rw [← hT]; exact stP_small (by rw [HL.out]; exact htn) (by rw [HBL.out]; exact hbn))
      have rAr := rangeAt_keep rA3 kr (by simpa using hrb.symm)
      have DDr := Lib.hid (HD.out.keep kWr (by simp))
      have HMO3 := Lib.hid (show makO s d = if 2048 < T.length then ([], 183) else if 131072 < (wrB V Z L s.base tn (Dig.shaId V d) T).length then ([], 2) else (wrB V Z L s.base tn (Dig.shaId V d) T, 0) by rw [HMO2.out, hT])
      clear hMK hMi HMO2 hT
      by_cases h2 : 2048 < T.length
      · have e2 : decide (T.length ≤ 2048) = false := decide_eq_false (by omega)
        have HR := Lib.hid (show makO s d = ([], 183) by rw [HMO3.out, if_pos h2])
        have ST1 := Lib.hid (show Calls Try.prog 48 #[.pointer (some ⟨M, 0, none⟩)] wr fun e w' => ∃ (a : Option Addr) (m c : Nat), e = .returned (.tuple #[.slice a m c, .bool false]) ∧ Keep [] wr w' from ST.out.mono (by
          rintro e w' ⟨oa, om, oc, vs, l, he, hlT, hs⟩
          rw [e2] at he
          exact ⟨oa, om, oc, he, hs.k⟩))
        clear ST e2
        go_wp2_with (first
          | (go_at_call 48; refine ST1.out.mono ?_; rintro e w5 ⟨oa, om, oc, rfl, k5⟩)
          | fail)
        go_returns
        rw [HR.out]
        exact nilB (k0.trans' (kWr.trans' k5))
      have e2 : decide (T.length ≤ 2048) = true := decide_eq_true (by omega)
      have ST2 := Lib.hid (show Calls Try.prog 48 #[.pointer (some ⟨M, 0, none⟩)] wr fun e w' => ∃ (a : Option Addr) (m c : Nat) (vs : List Value), e = .returned (.tuple #[.slice a m c, .bool true]) ∧ SL wr w' a m c vs T from ST.out.mono (by
        rintro e w' ⟨oa, om, oc, vs, l, he, hlT, hs⟩
        rw [e2] at he
        obtain rfl := hlT (by omega)
        exact ⟨oa, om, oc, vs, he, hs⟩))
      have HTL := Lib.hid (show T.length ≤ 2048 by omega)
      clear ST e2
      go_upto_region 14 with (first
        | (go_at_call 48; refine ST2.out.mono ?_; rintro e w5 ⟨oa, om, oc, vs, rfl, hs⟩)
        | fail)
      have hom : om ≤ 2048 := by rw [← hs.len]; exact HTL.out
      have rA5 := rangeAt_keep rAr hs.k (by simp)
      have WT := Lib.hid (written_any s a i c ta tn tc d oa om oc vs T V Z L w5 (DDr.out.keep hs.k (by simp)) hs.sl hs.st hs.len HV.out HZ.out HLn.out ⟨hV1, hV2⟩ hZ2 hL2 htn hom HSMALL.out)
      rw [HCL.out] at WT
      obtain ⟨XX, hXX⟩ : ∃ XX, wrB V Z L s.base tn (Dig.shaId V d) T = XX := ⟨_, rfl⟩
      rw [hXX] at WT
      have HMO4 := Lib.hid (show makO s d = if 131072 < XX.length then ([], 2) else (XX, 0) by rw [HMO3.out, if_neg h2, hXX])
      have k5 := hs.k
      clear hXX hs HMO3 h2
      go_upto_region 15 with (first
        | (refine wpList_load_mid rfl 29 (.tmp 2) rfl b 0 rfl cl _ rA5 Try.underlying29 rfl HI.out ?_)
        | (go_at_call 49; refine WT.out.mono ?_; rintro e w6 ⟨ba, bn, bc, rfl, hbn6, hbs, hbf, k6⟩; have HBN := Lib.hid hbn6; clear hbn6)
        | fail)
      have kk := (k0.trans' (kWr.trans' k5)).trans' k6
      by_cases h3 : 131072 < bn
      · have d3 : decide ((131072 : Int) < bn) = true := decide_eq_true (by omega)
        have HR := Lib.hid (show makO s d = ([], 2) by rw [HMO4.out, if_pos (by rw [← HBN.out]; exact h3)])
        go_wp2_with fail
        go_returns
        rw [HR.out]
        exact nilB kk
      · have d3 : decide ((131072 : Int) < bn) = false := decide_eq_false (by omega)
        have HR := Lib.hid (show makO s d = (XX, 0) by rw [HMO4.out, if_neg (by rw [← HBN.out]; exact h3)])
        go_wp2_with fail
        go_returns
        rw [HR.out]
        exact ⟨ba, bn, bc, rfl, HBN.out, hbs, fun b hb => Or.inr (Nat.le_trans (k0.trans' (kWr.trans' k5)).size (fr_old hbf b hb)), kk⟩
end Go.Proofs.Ytpocegdlobnhaaa
end

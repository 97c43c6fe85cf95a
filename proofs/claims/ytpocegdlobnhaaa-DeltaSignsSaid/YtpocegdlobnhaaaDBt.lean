/- (*Hash).turn from its third loop on: the rounds, and the state behind them. -/
import Derived.Test.YtpocegdlobnhaaaIb
import Derived.Test.YtpocegdlobnhaaaDBa
set_option linter.unusedVariables false
set_option linter.unusedSimpArgs false
set_option maxRecDepth 100000
namespace Go.Proofs.Ytpocegdlobnhaaa.Dig
open Go.RowKit

/-- The parts of a statement that is two. -/
def fstOf : Code → Code
  | .seq a _ => a
  | c => c
def sndOf : Code → Code
  | .seq _ b => b
  | c => c

set_option maxHeartbeats 16000000 in
set_option maxRecDepth 100000 in
theorem turnTail (ws : List Int) (hb : Nat) (st : List Int) (bl : List UInt8) (hv tot : Int) (w wr : World) (h : Blk w hb (hashCells true st bl hv tot) 161) (hblt : hb < w.heap.size) (hst : st.length = 8) (hSch : Sched bl ws)
    (hbw : Blk wr w.heap.size (u32s ws).toArray 149) (hkr : Keep [] w wr) (v1 v3 v4 v5 v6 v7 v8 v9 v10 v11 v12 v13 v14 v15 v16 v17 v18 v19 v20 v21 v22 v23 v24 v25 v26 v27 v28 v29 v30 v31 v32 v33 v34 v35 v36 v37 v38 v39 v40 v41 v42 v43 v44 v45 v46 v47 v48 v49 v50 v51 v52 v53 v54 v55 v56 v57 v58 v59 v60 v61 v62 v63 v64 v65 v66 v67 v68 v69 v70 v71 v72 v73 v74 v75 v76 v77 v78 v79 v80 v81 v82 v83 v84 v85 v86 v87 v88 v89 v90 v91 v92 v93 v94 v95 v96 v97 v98 v99 v100 v101 v102 v103 v104 v105 v106 v107 v108 v109 v110 v111 v112 v113 v114 v115 v116 v117 v118 v119 v120 v121 v122 v123 v124 v125 v126 v127 v128 v129 v130 v131 v132 v133 v134 v135 v136 v137 v138 v139 v140 v141 v142 v143 v144 v145 v146 v147 v148 v149 v150 v151 v152 v153 v154 v155 v156 v157 v158 v159 v160 v161 v162 v163 v164 v165 v166 v167 v168 v169 v170 v171 v172 v173 v174 v175 v176 v177 v178 v179 v180 v181 v182 v183 v184 v185 v186 v187 v188 v189 v190 v191 v192 v193 v194 v195 v196 v197 v198 v199 v200 v201 v202 v203 v204 v205 v206 : Value) (K : Act → World → Prop)
    (hK : ∀ a w_1, Code.wp Try.prog (sndOf (sndOf (sndOf (sndOf (Try.f117.body.getD .skip))))) (bodyPost Try.prog Try.f117 fun e w' => e = .returned (.tuple #[]) ∧ Blk w' hb (hashCells true (compS ws st) bl hv tot) 161 ∧ Keep [hb] w w') a w_1 → K a w_1) :
    Code.wp Try.prog (fstOf (sndOf (sndOf (sndOf (Try.f117.body.getD .skip))))) (Exit.then K (bodyPost Try.prog Try.f117 fun e w' => e = .returned (.tuple #[]) ∧ Blk w' hb (hashCells true (compS ws st) bl hv tot) 161 ∧ Keep [hb] w w')) ⟨#[.pointer (some ⟨hb, 0, none⟩), v1, .pointer (some ⟨w.heap.size, 0, none⟩), v3, v4, v5, v6, v7, v8, v9, v10, v11, v12, v13, v14, v15, v16, v17, v18, v19, v20, v21, v22, v23, v24, v25, v26, v27, v28, v29, v30, v31, v32, v33, v34, v35, v36, v37, v38, v39, v40, v41, v42, v43, v44, v45, v46, v47, v48, v49, v50, v51, v52, v53, v54, v55, v56, v57, v58, v59, v60, v61, v62, v63, v64, v65, v66, v67, v68, v69, v70, v71, v72, v73, v74, v75, v76, v77, v78, v79, v80, v81, v82, v83, v84, v85, v86, v87, v88, v89, v90, v91, v92, v93, v94, v95, v96, v97, v98, v99, v100, v101, v102, v103, v104, v105, v106, v107, v108, v109, v110, v111, v112, v113, v114, v115, v116, v117, v118, v119, v120, v121, v122, v123, v124, v125, v126, v127, v128, v129, v130, v131, v132, v133, v134, v135, v136, v137, v138, v139, v140, v141, v142, v143, v144, v145, v146, v147, v148, v149, v150, v151, v152, v153, v154, v155, v156, v157, v158, v159, v160, v161, v162, v163, v164, v165, v166, v167, v168, v169, v170, v171, v172, v173, v174, v175, v176, v177, v178, v179, v180, v181, v182, v183, v184, v185, v186, v187, v188, v189, v190, v191, v192, v193, v194, v195, v196, v197, v198, v199, v200, v201, v202, v203, v204, v205, v206], []⟩ wr := by
  have HS := Lib.hid hst
  clear hst
  generalize hBP : bodyPost Try.prog Try.f117 = BP at hK ⊢
  dsimp only [fstOf, sndOf, Try.f117, Option.getD] at hK ⊢
  subst hBP
  obtain ⟨s0, s1, s2, s3, s4, s5, s6, s7, rfl⟩ : ∃ s0 s1 s2 s3 s4 s5 s6 s7, st = [s0, s1, s2, s3, s4, s5, s6, s7] := eight HS.out
  have hb' := h.keep hkr (by simp)
  have c0 : wr.cell? ⟨hb, 1, none⟩ = some (.int .u32 s0) := hb'.cell (i := 1) rfl
  have c1 : wr.cell? ⟨hb, 2, none⟩ = some (.int .u32 s1) := hb'.cell (i := 2) rfl
  have c2 : wr.cell? ⟨hb, 3, none⟩ = some (.int .u32 s2) := hb'.cell (i := 3) rfl
  have c3 : wr.cell? ⟨hb, 4, none⟩ = some (.int .u32 s3) := hb'.cell (i := 4) rfl
  have c4 : wr.cell? ⟨hb, 5, none⟩ = some (.int .u32 s4) := hb'.cell (i := 5) rfl
  have c5 : wr.cell? ⟨hb, 6, none⟩ = some (.int .u32 s5) := hb'.cell (i := 6) rfl
  have c6 : wr.cell? ⟨hb, 7, none⟩ = some (.int .u32 s6) := hb'.cell (i := 7) rfl
  have c7 : wr.cell? ⟨hb, 8, none⟩ = some (.int .u32 s7) := hb'.cell (i := 8) rfl
  have hlt := hb'.lt
  have hltw := hbw.lt
  have n0 : hb ≠ wr.heap.size := by omega
  have n1 : hb ≠ wr.heap.size + 1 := by omega
  have n2 : hb ≠ wr.heap.size + 1 + 1 := by omega
  have n0' : hb < wr.heap.size + 1 := by omega
  have n1' : hb < wr.heap.size + 1 + 1 := by omega
  obtain ⟨KT, hKT⟩ : ∃ KT, KT = u32s ktab := ⟨_, rfl⟩
  have kl : KT.length = 64 := by rw [hKT]; rfl
  have k1 : ∀ v ∈ KT, v.oneCell' = true := by rw [hKT]; exact u32s_one _
  obtain ⟨Z, hZ, hz⟩ := zero70
  have r1 := storeCells_last1 Try.prog KT k1
  have r2 := storeCells_last2 Try.prog KT k1
  have r3 := storeCells_last3 Try.prog KT k1
  obtain ⟨r4, r5, r6⟩ := storeCells_lasts Try.prog KT k1
  have hwords : Hid (∀ W, Calls Try.prog 122 #[] W fun e w' => e = .returned (.agg KT.toArray) ∧ w' = W.alloc (.cells KT.toArray 149)) := by rw [hKT]; exact words_any
  have HK := Lib.hid hKT
  clear hKT k1
  go_upto_region 11 with fail
  go_cut [7, 8] (fun v7 v8 wc => ∃ p q, v7 = .pointer (some ⟨p, 0, none⟩) ∧ v8 = .pointer (some ⟨q, 0, none⟩) ∧ p ≠ q ∧ w.heap.size < p ∧ w.heap.size < q ∧ Blk wc p (u32s [s0, s1, s2, s3, s4, s5, s6, s7]).toArray 147 ∧ Blk wc q KT.toArray 149 ∧ Blk wc w.heap.size (u32s ws).toArray 149 ∧ Keep [] w wc)
  case first =>
    go_region_with (first | (go_at_call 122; go_must (refine (hwords.out _).mono ?_); go_must (rintro e w5 ⟨rfl, rfl⟩)))
    all_goals go_wp2
    all_goals (go_meet; case rel =>
      refine ⟨_, _, rfl, rfl, by omega, by omega, by omega, ?_, ?_, ?_, ?_⟩
      · first
        | (refine Blk.new' _ _ _ ?_; simp; done)
        | (refine (Blk.new' _ _ _ ?_).alloc _; simp; done)
        | (refine ((Blk.new' _ _ _ ?_).alloc _).alloc _; simp; done)
      · first
        | (refine Blk.new' _ _ _ ?_; simp; done)
        | (refine (Blk.new' _ _ _ ?_).alloc _; simp; done)
        | (refine ((Blk.new' _ _ _ ?_).alloc _).alloc _; simp; done)
      · exact ((hbw.alloc _).alloc _).alloc _
      · exact (((hkr.alloc _).alloc _).alloc _).drew)
  case rest =>
    obtain ⟨p, q, rfl, rfl, hpq, hp, hq, hbp, hbq, hbW, hkc⟩ := hcut
    clear hbw hkr hb' c0 c1 c2 c3 c4 c5 c6 c7 hlt hltw n0 n1 n2 n0' n1' r1 r2 r3 r4 r5 r6 hwords hz hZ
    have hpW : p ≠ w.heap.size := by omega
    have hqW : q ≠ w.heap.size := by omega
    go_wp2_with fail
    go_loopw [108] (fun i wx => ∃ (t : Nat), t ≤ 64 ∧ i = .int .i64 t ∧ Blk wx p (u32s (rounds ws [s0, s1, s2, s3, s4, s5, s6, s7] t)).toArray 147 ∧ Blk wx q KT.toArray 149 ∧ Blk wx w.heap.size (u32s ws).toArray 149 ∧ Keep [] w wx) (fun i _ => 64 - (intOf i).toNat)
    case atStart => exact ⟨0, by omega, rfl, hbp, hbq, hbW, hkc⟩
    case round =>
      clear hbp hbq hbW hkc
      obtain ⟨t, ht, rfl, hbp, hbq, hbW, hkc⟩ := hrel
      by_cases hlt : t < 64
      · obtain ⟨a, b, c, d, e, f, g, hh, hst⟩ := eight (rounds_length (S := ws) (st := [s0, s1, s2, s3, s4, s5, s6, s7]) rfl t)
        obtain ⟨x, hx⟩ : ∃ x, ws.getD t 0 = x := ⟨_, rfl⟩
        obtain ⟨k, hk⟩ : ∃ k, ktab.getD t 0 = k := ⟨_, rfl⟩
        rw [hst] at hbp
        have c0 : wr.cell? ⟨p, 0, none⟩ = some (.int .u32 a) := hbp.cell (i := 0) rfl
        have c1 : wr.cell? ⟨p, 1, none⟩ = some (.int .u32 b) := hbp.cell (i := 1) rfl
        have c2 : wr.cell? ⟨p, 2, none⟩ = some (.int .u32 c) := hbp.cell (i := 2) rfl
        have c3 : wr.cell? ⟨p, 3, none⟩ = some (.int .u32 d) := hbp.cell (i := 3) rfl
        have c4 : wr.cell? ⟨p, 4, none⟩ = some (.int .u32 e) := hbp.cell (i := 4) rfl
        have c5 : wr.cell? ⟨p, 5, none⟩ = some (.int .u32 f) := hbp.cell (i := 5) rfl
        have c6 : wr.cell? ⟨p, 6, none⟩ = some (.int .u32 g) := hbp.cell (i := 6) rfl
        have c7 : wr.cell? ⟨p, 7, none⟩ = some (.int .u32 hh) := hbp.cell (i := 7) rfl
        have f0 := hbp.free (i := 0)
        have f1 := hbp.free (i := 1)
        have f2 := hbp.free (i := 2)
        have f3 := hbp.free (i := 3)
        have f4 := hbp.free (i := 4)
        have f5 := hbp.free (i := 5)
        have f6 := hbp.free (i := 6)
        have f7 := hbp.free (i := 7)
        have cW : wr.cell? ⟨w.heap.size, t, none⟩ = some (.int .u32 x) := hbW.cell (by rw [← hx]; simp [u32s, List.getD, List.getElem?_eq_getElem (show t < ws.length by rw [hSch.len]; exact hlt)])
        have cK : wr.cell? ⟨q, t, none⟩ = some (.int .u32 k) := hbq.cell (by rw [HK.out, ← hk]; have : t < ktab.length := hlt; simp [u32s, List.getD, List.getElem?_eq_getElem this])
        have u0 : (t : Int) < 64 := by omega
        have HST := Lib.hid hst
        have HX := Lib.hid hx
        have HKK := Lib.hid hk
        clear hst hx hk
        go_wp2_with fail
        go_quiet (fail)
        go_wp2_with fail
        go_region_held3 (fun w' => w'.cell? ⟨p, 7, none⟩ = some (.int .u32 hh) ∧ w'.cell? ⟨p, 5, none⟩ = some (.int .u32 f) ∧ w'.cell? ⟨p, 6, none⟩ = some (.int .u32 g) ∧ w'.cell? ⟨q, t, none⟩ = some (.int .u32 k) ∧ w'.cell? ⟨w.heap.size, t, none⟩ = some (.int .u32 x)) (go_simp)
          ((go_at_call 121; go_must (refine (turned_any _ _ _ (by decide)).mono ?_); go_must (rintro e w5 ⟨rfl, m, rfl⟩)))
        go_wp2_with fail
        go_region_held3 (fun w' => w'.cell? ⟨p, 1, none⟩ = some (.int .u32 b) ∧ w'.cell? ⟨p, 2, none⟩ = some (.int .u32 c)) (go_simp)
          ((go_at_call 121; go_must (refine (turned_any _ _ _ (by decide)).mono ?_); go_must (rintro e w5 ⟨rfl, m, rfl⟩)))
        go_wp2_with fail
        refine ⟨⟨t + 1, by omega, by go_num, ?_, ?_, ?_, ?_⟩, by simp [intOf]; omega⟩
        · have hr : rounds ws [s0, s1, s2, s3, s4, s5, s6, s7] (t + 1) = [(rndX k x e f g hh + rndY a b c) % 4294967296, a, b, c, (d + rndX k x e f g hh) % 4294967296, e, f, g] := by
            show rndL _ _ (rounds ws _ t) = _
            rw [HST.out, HX.out, HKK.out]; rfl
          rw [hr]
          exact Blk.set8 (w := wr.drewN _) hbp
        · exact ((((((((Blk.setOther (w := wr.drewN _) hbq hpq.symm _).setOther hpq.symm _).setOther hpq.symm _).setOther hpq.symm _).setOther hpq.symm _).setOther hpq.symm _).setOther hpq.symm _).setOther hpq.symm _)
        · exact ((((((((Blk.setOther (w := wr.drewN _) hbW hpW.symm _).setOther hpW.symm _).setOther hpW.symm _).setOther hpW.symm _).setOther hpW.symm _).setOther hpW.symm _).setOther hpW.symm _).setOther hpW.symm _)
        · have hp' := Nat.le_of_lt hp
          exact (((((((((hkc.drewN).set (Or.inr hp') _).set (Or.inr hp') _).set (Or.inr hp') _).set (Or.inr hp') _).set (Or.inr hp') _).set (Or.inr hp') _).set (Or.inr hp') _).set (Or.inr hp') _)
      · have hti : (t : Int) = 64 := by omega
        simp only [hti]
        obtain rfl : t = 64 := by omega
        clear hti hlt ht
        go_wp2_with fail
        go_loopw [190] (fun i wx => ∃ (n : Nat), n ≤ 8 ∧ i = .int .i64 n ∧ Blk wx hb (hashCells true (mix [s0, s1, s2, s3, s4, s5, s6, s7] (rounds ws [s0, s1, s2, s3, s4, s5, s6, s7] 64) n) bl hv tot) 161 ∧ Blk wx p (u32s (rounds ws [s0, s1, s2, s3, s4, s5, s6, s7] 64)).toArray 147 ∧ Keep [hb] w wx) (fun i _ => 8 - (intOf i).toNat)
        case atStart => exact ⟨0, by omega, rfl, h.keep hkc (by simp), hbp, hkc.mono (by simp)⟩
        case round =>
          clear hbp hbq hbW hkc
          obtain ⟨n, hn, rfl, hbh, hbp, hkc⟩ := hrel
          by_cases hlt : n < 8
          · have rl : (rounds ws [s0, s1, s2, s3, s4, s5, s6, s7] 64).length = 8 := rounds_length rfl 64
            obtain ⟨R, hR⟩ : ∃ R, rounds ws [s0, s1, s2, s3, s4, s5, s6, s7] 64 = R := ⟨_, rfl⟩
            rw [hR] at rl hbh hbp ⊢
            obtain ⟨st, hst⟩ : ∃ st, [s0, s1, s2, s3, s4, s5, s6, s7] = st := ⟨_, rfl⟩
            have sl : st.length = 8 := by rw [← hst]; rfl
            rw [hst] at hbh ⊢
            clear hst hR
            have ex : st[n]? = some (st.getD n 0) := by simp [List.getD, List.getElem?_eq_getElem (show n < st.length by omega)]
            have ey : R[n]? = some (R.getD n 0) := by simp [List.getD, List.getElem?_eq_getElem (show n < R.length by omega)]
            obtain ⟨x, hx⟩ : ∃ x, st.getD n 0 = x := ⟨_, rfl⟩
            obtain ⟨y, hy⟩ : ∃ y, R.getD n 0 = y := ⟨_, rfl⟩
            rw [hx] at ex
            rw [hy] at ey
            have ml : (mix st R n).length = 8 := (mix_length st R n).trans sl
            obtain ⟨M, hM⟩ : ∃ M, mix st R n = M := ⟨_, rfl⟩
            have em : M[n]? = some x := by rw [← hM, mix_get st R n (Nat.le_refl _)]; exact ex
            rw [hM] at ml hbh
            have cx : wr.cell? ⟨hb, 1 + n, none⟩ = some (.int .u32 x) := hbh.cell (hash_word em)
            have fx := hbh.free (i := 1 + n)
            have cy : wr.cell? ⟨p, n, none⟩ = some (.int .u32 y) := hbp.cell (by simp [u32s, ey])
            have HM := Lib.hid hM
            have HX := Lib.hid hx
            have HY := Lib.hid hy
            have ML := Lib.hid ml
            have hbp' : hb ≠ p := by omega
            clear hM hx hy ml ex ey em rl sl
            go_wp2_with fail
            go_region
            go_wp2
            refine ⟨⟨n + 1, by omega, by go_num, ?_, ?_, ?_⟩, by simp [intOf]; omega⟩
            · have hm : mix st R (n + 1) = M.set n ((x + y) % 4294967296) := by
                show (mix st R n).set n (IntKind.u32.wrap (st.getD n 0 + R.getD n 0)) = _
                rw [HM.out, HX.out, HY.out]; rfl
              rw [hm, ← hash_setWord (by rw [ML.out]; exact hlt)]
              exact (hbh.set (1 + n) _).drew
            · exact (hbp.setOther hbp'.symm _).drew
            · exact (hkc.set (Or.inl (by simp)) _).drew
          · obtain rfl : n = 8 := by omega
            go_wp2
            go_returns
            exact ⟨rfl, hbh, hkc⟩
end Go.Proofs.Ytpocegdlobnhaaa.Dig

/- An id read of its hex: the program's Parse. -/
import Derived.Test.YtlpinbkgbnbkhaaH
set_option linter.unusedVariables false
set_option linter.unusedSimpArgs false
namespace Go.Proofs.Ytlpinbkgbnbkhaa
open Go.RowKit

/-- The two digits of byte j of a text. -/
def hiD (s : List UInt8) (j : Nat) : Int := valD (s.getD (2 * j) 0)
def loD (s : List UInt8) (j : Nat) : Int := valD (s.getD (2 * j + 1) 0)
def idsOf (s : List UInt8) : List UInt8 := (List.range 32).map fun j => UInt8.ofNat (16 * hiD s j + loD s j).toNat
theorem idsOf_length (s : List UInt8) : (idsOf s).length = 32 := by simp [idsOf]
theorem idsOf_get (s : List UInt8) {j : Nat} (hj : j < 32) : (idsOf s)[j]? = some (UInt8.ofNat (16 * hiD s j + loD s j).toNat) := by simp [idsOf, hj]
/-- Does the text's bytes up to the n-th have digits? -/
def digitsTo (s : List UInt8) (n : Nat) : Bool := (List.range n).all fun j => decide (0 ≤ hiD s j) && decide (0 ≤ loD s j)
theorem digitsTo_iff {s : List UInt8} {n : Nat} : digitsTo s n = true ↔ ∀ j, j < n → 0 ≤ hiD s j ∧ 0 ≤ loD s j := by simp [digitsTo]
def good (s : List UInt8) : Bool := decide (s.length = 64) && digitsTo s 32
def parseId (s : List UInt8) : List UInt8 := if good s then idsOf s else List.replicate 32 0
def parseE (s : List UInt8) : Int := if good s then 0 else 20
theorem parseId_length (s : List UInt8) : (parseId s).length = 32 := by unfold parseId; split <;> simp [idsOf_length]

/-- A result in a cell and one in a slot. -/
theorem results_cell_slot {P : Program} {fn : Func} {p q : Tmp} {ty : TypeId} (h : fn.results = #[.cell p ty, .tmp q]) (tmps : Array Value) (w : World) (g : Nat) (t : TypeId) (cs : Array Value) (fr : Nat × Nat) (d : TypeDesc)
    (hp : tmps.getD p undef = .pointer (some ⟨g, 0, none⟩)) (hg : w.heap[g]? = some (.cells cs t fr))
    (hu : P.underlying ty = some d) (hd : (match d with | .struct _ | .array _ _ => true | _ => false) = true) (hi : (P.info? ty).map (·.size) = some cs.size) :
    (results fn tmps).run P w = .ok (.tuple #[.agg cs, tmps.getD q undef]) w := by
  have hp' : tmps[p]?.getD undef = .pointer (some ⟨g, 0, none⟩) := by simpa using hp
  simp [results, h, hp', asAddr, run_loadVar_row w g t ty cs fr d hg hu hd hi]

theorem byte_of_digits (h l : Int) (h1 : 0 ≤ h) (h2 : h ≤ 15) (l1 : 0 ≤ l) (l2 : l ≤ 15) :
    Value.int .u8 (bits BinOp.or IntKind.i64 (h * 16) l % 256) = B8 (UInt8.ofNat (16 * h + l).toNat) := by
  obtain ⟨a, rfl⟩ : ∃ a : Nat, h = a := ⟨h.toNat, by omega⟩
  obtain ⟨b, rfl⟩ : ∃ b : Nat, l = b := ⟨l.toNat, by omega⟩
  have e : (a * 16 ||| b) = a * 16 + b := by
    have := Nat.two_pow_add_eq_or_of_lt (show b < 2 ^ 4 by omega) a
    rw [Nat.mul_comm a 16]; exact this.symm
  have e2 : bits BinOp.or IntKind.i64 ((a : Int) * 16) (b : Int) = ((a * 16 + b : Nat) : Int) := by
    rw [show (a : Int) * 16 = ((a * 16 : Nat) : Int) by omega, i64_or_nat _ _ (by omega) (by omega), e]
  rw [e2, ofNat_B8]
  congr 2
  omega

theorem run_strOf {P : Program} {t : TypeId} (h : P.underlying t = some .string) (s : List UInt8) (k : IntKind) (j : Nat) (hj : j < s.length) (w : World) :
    (Instr.index t (.string (strOf s)) (.int k (j : Int))).run P w = .ok (B8 (s.getD j 0)) w := by
  have hs : (strOf s).size = s.length := by simp [strOf, ByteArray.size]
  rw [run_index_string w t _ k _ h, dif_pos ⟨by omega, by rw [hs]; omega⟩]
  have e : ∀ h', (strOf s)[((j : Nat) : Int).toNat]'h' = s[j] := by
    intro h'
    show (strOf s).data[((j : Nat) : Int).toNat]'h' = _
    simp [strOf]
    rfl
  rw [e, List.getD_eq_getElem?_getD, List.getElem?_eq_getElem hj]
  rfl

set_option maxHeartbeats 4000000 in
set_option maxRecDepth 100000 in
theorem parse_any (s : List UInt8) (n : Nat) (w : World) (hl : s.length = n) (hn : n ≤ 9223372036854775807) :
    Calls Try.prog 24 #[.string (strOf s)] w fun e w' => e = .returned (.tuple #[.agg (bs (parseId s)).toArray, .int .i64 (parseE s)]) ∧ Keep [] w w' := by
  have hss : (strOf s).size = n := by rw [← hl]; simp [strOf, ByteArray.size]
  have HL := Lib.hid hl
  clear hl
  go_enter Try.func24, Try.ntmps24
  go_upto_region 1 with fail
  go_cut [2, 3, 4] (fun v2 v3 v4 wc => ∃ R I, v2 = .pointer (some ⟨R, 0, none⟩) ∧ v3 = .int .i64 0 ∧ v4 = .pointer (some ⟨I, 0, none⟩) ∧ R < I ∧ w.heap.size ≤ R ∧ Blk wc R (bs (List.replicate 32 0)).toArray 33 ∧ Blk wc I (bs (List.replicate 32 0)).toArray 33 ∧ Keep [] w wc)
  case first =>
    go_wp2_with fail
    go_meet
    case rel => exact ⟨_, _, rfl, rfl, rfl, by omega, Nat.le_refl _, (Blk.new w _ 33).alloc _, by refine Blk.new' _ _ _ ?_; simp, ((Keep.refl [] w).alloc _).alloc _⟩
  case rest =>
    obtain ⟨R, I, rfl, rfl, rfl, hRI, hRw, hBR, hBI, hk⟩ := hcut
    have hIw : w.heap.size ≤ I := by omega
    have hne : R ≠ I := by omega
    have hallz := bs_all (List.replicate 32 0)
    obtain ⟨S, hS⟩ : ∃ S, strOf s = S := ⟨_, rfl⟩
    rw [hS] at hss
    simp only [hS]
    by_cases h64 : n = 64
    · subst h64
      have hb64 : ((64 : Int) != 64) = false := rfl
      have HS := Lib.hid hS
      clear hS
      go_wp2_with fail
      go_loopw [12] (fun v wx => ∃ i, i ≤ 32 ∧ v = .int .i64 (i : Nat) ∧ digitsTo s i = true ∧ Blk wx R (bs (List.replicate 32 0)).toArray 33 ∧ Blk wx I (bs (upTo (idsOf s) i)).toArray 33 ∧ Keep [] w wx) (fun v _ => 32 - (intOf v).toNat)
      case atStart => exact ⟨0, by omega, rfl, rfl, hBR, by rw [upTo_none, idsOf_length]; exact hBI, hk⟩
      case round =>
        clear hBR hBI hk
        obtain ⟨i, hi, rfl, hdt, hBR, hBI, hk⟩ := hrel
        by_cases hlt : i < 32
        · obtain ⟨c1, hc1⟩ : ∃ c, s.getD (2 * i) 0 = c := ⟨_, rfl⟩
          obtain ⟨c2, hc2⟩ : ∃ c, s.getD (2 * i + 1) 0 = c := ⟨_, rfl⟩
          have hs1 : ∀ W, (Instr.index 9 (.string S) (.int .i64 (2 * (i : Int)))).run Try.prog W = .ok (B8 c1) W := fun W => by
            have := run_strOf (P := Try.prog) Try.underlying9 s .i64 (2 * i) (by rw [HL.out]; omega) W
            rw [hc1, HS.out] at this
            simpa using this
          have hs2 : ∀ W, (Instr.index 9 (.string S) (.int .i64 (2 * (i : Int) + 1))).run Try.prog W = .ok (B8 c2) W := fun W => by
            have := run_strOf (P := Try.prog) Try.underlying9 s .i64 (2 * i + 1) (by rw [HL.out]; omega) W
            rw [hc2, HS.out] at this
            simpa using this
          have hhi : hiD s i = valD c1 := by rw [hiD, hc1]
          have hlo : loD s i = valD c2 := by rw [loD, hc2]
          obtain ⟨b1, b1'⟩ := valD_le c1
          obtain ⟨b2, b2'⟩ := valD_le c2
          have u1 : IntKind.i64.wrap (2 * (i : Int)) = 2 * i := IntWalk.i64_in _ (by omega)
          have u2 : IntKind.i64.wrap (2 * (i : Int) + 1) = 2 * i + 1 := IntWalk.i64_in _ (by omega)
          have HHI := Lib.hid hhi
          have HLO := Lib.hid hlo
          have HDT := Lib.hid hdt
          clear hc1 hc2 hhi hlo hdt
          by_cases q1 : valD c1 < 0
          · have hg : good s = false := by
              have : ¬ digitsTo s 32 = true := fun h => by have := (digitsTo_iff.1 h) i hlt; have e := HHI.out; omega
              simp [good, this]
            have HG := Lib.hid hg
            clear hg
            go_wp2_with fail
            go_region_held3 (fun _ => True) (trivial) ((go_at_call 38; go_must (refine (value_any _ _).mono ?_); go_must (rintro e w5 ⟨rfl, rfl⟩)))
            all_goals (
              have hBR' : Blk wr.drew R (bs (List.replicate 32 0)).toArray 33 := hBR.drew
              go_wp2_with (first
                | (refine wpList_store_row rfl 33 (.tmp 2) (.tmp 32) rfl R (bs (List.replicate 32 0)).toArray rfl rfl 33 (bs (List.replicate 32 0)).toArray hBR' rfl rfl hallz ?_)
                | fail)
              refine bodyPost_ret (results_cell_slot rfl _ _ R 33 (bs (List.replicate 32 0)).toArray (0, 0) _ rfl (hBR'.setRow _) Try.underlying33 rfl rfl) rfl ⟨?_, hk.drew.setRow (Or.inr hRw) _⟩
              rw [parseId, parseE, HG.out]
              rfl)
          · by_cases q2 : valD c2 < 0
            · have hg : good s = false := by
                have : ¬ digitsTo s 32 = true := fun h => by have := (digitsTo_iff.1 h) i hlt; have e := HLO.out; omega
                simp [good, this]
              have HG := Lib.hid hg
              clear hg
              go_wp2_with fail
              go_region_held3 (fun _ => True) (trivial) ((go_at_call 38; go_must (refine (value_any _ _).mono ?_); go_must (rintro e w5 ⟨rfl, rfl⟩)))
              all_goals (
                have hBR' : Blk wr.drew R (bs (List.replicate 32 0)).toArray 33 := hBR.drew
                go_wp2_with (first
                  | (refine wpList_store_row rfl 33 (.tmp 2) (.tmp 32) rfl R (bs (List.replicate 32 0)).toArray rfl rfl 33 (bs (List.replicate 32 0)).toArray hBR' rfl rfl hallz ?_)
                  | fail)
                refine bodyPost_ret (results_cell_slot rfl _ _ R 33 (bs (List.replicate 32 0)).toArray (0, 0) _ rfl (hBR'.setRow _) Try.underlying33 rfl rfl) rfl ⟨?_, hk.drew.setRow (Or.inr hRw) _⟩
                rw [parseId, parseE, HG.out]
                rfl)
            · have q3 : 0 ≤ valD c1 := by omega
              have q4 : 0 ≤ valD c2 := by omega
              have ul : (upTo (idsOf s) i).length = 32 := by rw [upTo_length _ (by rw [idsOf_length]; omega), idsOf_length]
              obtain ⟨y, ey⟩ : ∃ x, (upTo (idsOf s) i)[i]? = some x := ⟨_, List.getElem?_eq_getElem (by rw [ul]; exact hlt)⟩
              have cI : wr.cell? ⟨I, i, none⟩ = some (B8 y) := hBI.cell (by simp [bs, ey])
              have fI := hBI.free (i := i)
              have bd := byte_of_digits (valD c1) (valD c2) q3 b1 q4 b2
              have BD := Lib.hid bd
              clear ul ey bd
              go_wp2_with fail
              go_region_held3 (fun _ => True) (trivial) ((go_at_call 38; go_must (refine (value_any _ _).mono ?_); go_must (rintro e w5 ⟨rfl, rfl⟩)))
              all_goals go_wp2_with fail
              all_goals first
                | (exfalso; omega)
                | (refine ⟨⟨i + 1, by omega, by go_num, ?_, (hBR.setOther (by simpa using hne) _).drew, ?_, (hk.set (Or.inr hIw) _).drew⟩, by simp [intOf]; omega⟩
                   · refine digitsTo_iff.2 fun j hj => ?_
                     by_cases hji : j = i
                     · subst hji; rw [HHI.out, HLO.out]; exact ⟨q3, q4⟩
                     · exact digitsTo_iff.1 HDT.out j (by omega)
                   · rw [BD.out]
                     have := hBI.set i (B8 (UInt8.ofNat (16 * valD c1 + valD c2).toNat))
                     rw [← HHI.out, ← HLO.out, ← bs_set, upTo_set (idsOf_get s hlt)] at this
                     rw [← HHI.out, ← HLO.out]
                     exact this.drew)
        · obtain rfl : i = 32 := by omega
          have hg : good s = true := by simp [good, HL.out, hdt]
          have hup : upTo (idsOf s) 32 = idsOf s := by have := upTo_all (idsOf s); rwa [idsOf_length] at this
          rw [hup] at hBI
          have hsz : (bs (idsOf s)).toArray.size = 32 := size32 _ (idsOf_length s)
          have hall := bs_all (idsOf s)
          have HG := Lib.hid hg
          have HSZ := Lib.hid hsz
          have HALL := Lib.hid hall
          clear hg hup hdt hsz hall
          go_wp2_with (first
            | (refine wpList_load_row rfl 33 (.tmp 4) rfl I rfl 33 (bs (idsOf s)).toArray (0, 0) _ hBI Try.underlying33 rfl (by rw [HSZ.out]; rfl) ?_)
            | (refine wpList_store_row rfl 33 (.tmp 2) (.tmp 41) rfl R (bs (idsOf s)).toArray rfl rfl 33 (bs (List.replicate 32 0)).toArray hBR (by rw [HSZ.out]; rfl) (by rw [HSZ.out]; rfl) HALL.out ?_)
            | fail)
          refine bodyPost_ret (results_cell_slot rfl _ _ R 33 (bs (idsOf s)).toArray (0, 0) _ rfl (hBR.setRow _) Try.underlying33 rfl (by rw [HSZ.out]; rfl)) rfl ⟨?_, hk.setRow (Or.inr hRw) _⟩
          rw [parseId, parseE, HG.out]
          rfl
    · have g1 : ¬ (n : Int) = 64 := by omega
      have g2 : ((n : Int) == 64) = false := by simpa using g1
      have g3 : ((n : Int) != 64) = true := by simpa using g1
      have hg : good s = false := by simp [good, HL.out, h64]
      have HG := Lib.hid hg
      clear hg hS
      go_wp2_with (first
        | (refine wpList_store_row rfl 33 (.tmp 2) (.tmp 11) rfl R (bs (List.replicate 32 0)).toArray rfl rfl 33 (bs (List.replicate 32 0)).toArray hBR rfl rfl hallz ?_)
        | fail)
      refine bodyPost_ret (results_cell_slot rfl _ _ R 33 (bs (List.replicate 32 0)).toArray (0, 0) _ rfl (hBR.setRow _) Try.underlying33 rfl rfl) rfl ⟨?_, hk.setRow (Or.inr hRw) _⟩
      rw [parseId, parseE, HG.out]
      rfl
end Go.Proofs.Ytlpinbkgbnbkhaa

/- writeOver: the rows are written over with rows of the same lengths. -/
import Derived.Test.YtlpinbkgbnbkhaaAc
import Derived.StillTailTactics
set_option linter.unusedVariables false
set_option linter.unusedSimpArgs false
namespace Go.Proofs.Ytlpinbkgbnbkhaa
open Go.RowKit

/-- A roomy row's cells: the row, the marks, what is behind. -/
theorem Roomy.open {w : World} {a : Option Addr} {l c : Nat} {x : List UInt8} (h : Roomy w a l c x) (hl : x.length = l) : ∃ g pre post, a = Option.some ⟨g, pre.length, none⟩ ∧ Blk w g (pre ++ (bs x ++ (bs (marks 160) ++ post))).toArray 5 ∧ l ≤ c ∧
    (∀ (w' : World) (z : List UInt8), z.length = l → Blk w' g (pre ++ (bs z ++ (bs (marks 160) ++ post))).toArray 5 → Roomy w' a l c z) := by
  have hx := h
  obtain ⟨g0, o0, ha⟩ := Roomy.some hx
  rcases h.2 with ⟨h1, h2⟩ | ⟨g, cap, pre, post, h1, hb, r1, r2, r3⟩
  · omega
  · simp only [Value.slice.injEq, true_and] at h1
    obtain ⟨rfl, rfl⟩ := h1
    have hm : (bs (marks 160)).length = 160 := by rw [bs_length, marks, List.length_replicate]
    refine ⟨g, pre, post, rfl, by rw [bs_append, List.append_assoc] at hb; exact hb, by omega, fun w' z hz hb' => ⟨?_, Or.inr ⟨g, c, pre, post, rfl, ?_, r1, ?_, r3⟩⟩⟩
    · rw [bs_append, List.length_append, hm, bs_length]; omega
    · rw [bs_append, List.append_assoc]; exact hb'
    · rw [bs_append, List.length_append, hm, bs_length] at r2 ⊢
      omega
theorem over_eq (pre X Y rest : List Value) (h : X.length = Y.length) : (pre ++ (X ++ rest)).take pre.length ++ (Y ++ (pre ++ (X ++ rest)).drop (pre.length + Y.length)) = pre ++ (Y ++ rest) := by
  rw [List.take_left, ← List.drop_drop, List.drop_left, ← h, List.drop_left]
theorem Gath.keepS {base : Nat} {w w' : World} {a : Option Addr} {k c : Nat} {S : List Nat} {vs : List Value} (h : Gath base w a k c vs) (hk : Keep S w w') (hS : ∀ b ∈ blks (.slice a k c), b ∉ S) : Gath base w' a k c vs :=
  ⟨h.own.keep hk hS, fun v hv b hb => by have := h.lt v hv b hb; have := hk.size; omega, h.dj, h.out, h.since, h.since'⟩
/-- Half of the rows are written over. -/
def half (zss xss : List (List UInt8)) (i : Nat) : List (List UInt8) := zss.take i ++ xss.drop i
theorem half_len {zss xss : List (List UInt8)} {i n : Nat} (hz : zss.length = n) (hx : xss.length = n) (hi : i ≤ n) {j : Nat} : (half zss xss i)[j]? = if j < i then zss[j]? else xss[j]? := by
  unfold half
  by_cases h : j < i
  · rw [if_pos h, List.getElem?_append_left (by rw [List.length_take]; omega), List.getElem?_take, if_pos h]
  · rw [if_neg h, List.getElem?_append_right (by rw [List.length_take]; omega), List.length_take, List.getElem?_drop]
    congr 1; omega

set_option maxHeartbeats 4000000 in
set_option maxRecDepth 100000 in
theorem writeOver_any (base base2 : Nat) (a b : Option Addr) (n c cap : Nat) (vs vs2 : List Value) (xss zss : List (List UInt8)) (w : World) (hG : Gath base w a (n + 3) c vs) (hR : RoomyAt w n vs xss) (hM : MarksAt w n vs 3)
    (hG2 : Gath base2 w b n cap vs2) (hR2 : RowsC w n vs2 zss) (hlt : ∀ v ∈ vs, ∀ b ∈ blks v, b < base2) (hlo : ∀ b ∈ blks (.slice a (n + 3) c), b < base2) (hxl : xss.length = n) (hzl : zss.length = n)
    (hlen : ∀ (i : Nat) (x z : List UInt8), xss[i]? = some x → zss[i]? = some z → z.length = x.length) (hn : n ≤ 3000000) :
    Calls Try.prog 20 #[.slice a n c, .slice b n cap] w fun e w' => e = .returned (.tuple #[]) ∧ Gath base w' a (n + 3) c vs ∧ RoomyAt w' n vs zss ∧ MarksAt w' n vs 3 ∧ Gath base2 w' b n cap vs2 ∧ RowsC w' n vs2 zss ∧ Keep (vs.flatMap blks) w w' := by
  obtain ⟨g, off, rfl⟩ := hG.some (by omega)
  have h0 : half zss xss 0 = xss := by simp [half]
  have hend : half zss xss n = zss := by simp [half, List.take_of_length_le (Nat.le_of_eq hzl), List.drop_of_length_le (Nat.le_of_eq hxl)]
  have HE := Lib.hid hend
  have HXL := Lib.hid hxl
  have HZL := Lib.hid hzl
  rw [← h0] at hR
  clear h0 hend hxl hzl
  go_enter Try.func20, Try.ntmps20
  go_wp2_with fail
  go_loopw [4] (fun v4 wr => ∃ i : Nat, i ≤ n ∧ v4 = .int .i64 (i : Nat) ∧ Gath base wr (some ⟨g, off, none⟩) (n + 3) c vs ∧ RoomyAt wr n vs (half zss xss i) ∧ MarksAt wr n vs 3 ∧ Gath base2 wr b n cap vs2 ∧ RowsC wr n vs2 zss ∧ Keep (vs.flatMap blks) w wr) (fun v4 _ => n - (intOf v4).toNat)
  case atStart => exact ⟨0, by omega, rfl, hG, hR, hM, hG2, hR2, Keep.refl _ _⟩
  case round =>
    clear hG hR hM hG2 hR2
    obtain ⟨i, hi, rfl, hG, hR, hM, hG2, hR2, hkw⟩ := hrel
    by_cases hin : i < n
    · obtain ⟨z, hz⟩ : ∃ z, zss[i]? = some z := ⟨zss[i]'(by rw [HZL.out]; exact hin), List.getElem?_eq_getElem _⟩
      obtain ⟨x, hx⟩ : ∃ z, xss[i]? = some z := ⟨xss[i]'(by rw [HXL.out]; exact hin), List.getElem?_eq_getElem _⟩
      have hxz := hlen i x z hx hz
      obtain ⟨a1, c1, hv1, hr1⟩ := hR i x hin (by rw [half_len HZL.out HXL.out hi, if_neg (Nat.lt_irrefl i)]; exact hx)
      obtain ⟨a2, c2, hv2, hr2⟩ := hR2 i z hin hz
      obtain ⟨G, pre, post, rfl, hB, hlc, hback⟩ := Roomy.open hr1 rfl
      obtain ⟨g2, o2, rfl⟩ : ∃ g2 o2, b = some ⟨g2, o2, none⟩ := hG2.some (by omega)
      have e1 := gath_cell hG hv1
      have e2 := gath_cell hG2 hv2
      obtain ⟨l, hl⟩ : ∃ l, x.length = l := ⟨_, rfl⟩
      rw [hl] at e1 hxz hlc hback hv1
      rw [hxz] at e2 hr2 hv2
      have HX := Lib.hid hx
      have HZ := Lib.hid hz
      have HL := Lib.hid hl
      have HZ2 := Lib.hid hxz
      have hmem1 := List.mem_of_getElem? hv1
      have hBd := hB.drew
      have hrd2 := (Sl.use hr2).2.2.1
      have HV := Lib.hid hv1
      clear hx hz hl hxz hv1 hv2 hr1 hB
      go_wp2_with fail
      go_still_tail 8, (by kernel_rfl)
      change wpList _ _ _ _ _ wr.drew
      have hk0 : Keep [] wr wr.drew := (Keep.refl _ _).drew
      have hrd3 : Rd wr.drew a2 (bs z) := hrd2.keep hk0 (by simp)
      generalize wr.drew = w5 at hBd hk0 hrd3 ⊢
      go_wp2_with (first
        | (refine wpList_copyB rfl (.tmp 14) (.tmp 18) 29 29 rfl 5 Try.underlying29 size5 (some ⟨G, pre.length, none⟩) a2 l c1 l c2 rfl rfl G pre.length (pre ++ (bs x ++ (bs (marks 160) ++ post))) 5 hBd (bs z) (by rw [bs_length, HZ2.out]; exact (Nat.min_self l).symm) (fun _ => rfl) hrd3 (by rw [bs_length, HZ2.out, List.length_append, List.length_append, bs_length, HL.out]; omega) (bs_one z) ?_; intro w6 hB6 hk6 hs6)
        | fail)
      have hB7 := hB6.out
      rw [over_eq pre (bs x) (bs z) (bs (marks 160) ++ post) (by rw [bs_length, bs_length, HL.out, HZ2.out])] at hB7
      have hr6 := hback w6 z HZ2.out hB7
      have kk : Keep [G] wr w6 := (hk0.mono (T := [G]) (by simp)).trans hk6 (by simp)
      have hGv : G ∈ blks (.slice (some ⟨G, pre.length, none⟩) l c1) := by simp [blks, Value.ownBlock]
      have hG9 : G < base2 := hlt _ hmem1 G hGv
      have hoth : ∀ (j : Nat) (u : Value), j ≠ i → vs[j]? = some u → ∀ b ∈ blks u, b ∉ [G] := fun j u hj hu b hb hbG => by
        simp only [List.mem_singleton] at hbG; subst hbG
        exact hG.dj j i u _ hj hu HV.out b hb hGv
      have hG6 := hG.keepS kk (fun b hb hbG => by
        simp only [List.mem_singleton] at hbG; subst hbG
        exact hG.out _ hmem1 b hGv hb)
      have hG26 := hG2.keepS kk (fun b hb hbG => by
        simp only [List.mem_singleton] at hbG; subst hbG
        have := hG2.since' b hb; omega)
      have hR26 := hR2.keep kk (fun v hv b hb hbG => by
        simp only [List.mem_singleton] at hbG; subst hbG
        have := hG2.since v hv b hb; omega)
      have hM6 : MarksAt w6 n vs 3 := fun j hj => by
        obtain ⟨a', c', h1, h2⟩ := hM j hj
        exact ⟨a', c', h1, h2.keep kk (hoth _ _ (by omega) h1)⟩
      have hR6 : RoomyAt w6 n vs (half zss xss (i + 1)) := fun j y hj hy => by
        rw [half_len HZL.out HXL.out (by omega)] at hy
        by_cases hji : j = i
        · subst hji
          rw [if_pos (by omega), HZ.out] at hy
          cases hy
          rw [HZ2.out]
          exact ⟨_, c1, HV.out, hr6⟩
        · have hy' : (half zss xss i)[j]? = some y := by
            rw [half_len HZL.out HXL.out (by omega)]
            by_cases h9 : j < i
            · rw [if_pos h9]; rw [if_pos (by omega)] at hy; exact hy
            · rw [if_neg h9]; rw [if_neg (by omega)] at hy; exact hy
          obtain ⟨a', c', h1, h2⟩ := hR j y hj hy'
          exact ⟨a', c', h1, Sl.keep h2 kk (fun b hb => hoth j _ hji h1 b (by rw [blks_len a' _ (y.length + 160)]; exact hb))⟩
      exact ⟨⟨i + 1, by omega, by go_num, hG6, hR6, hM6, hG26, hR26, hkw.trans kk (fun b hb => Or.inl (by simp only [List.mem_singleton] at hb; subst hb; exact List.mem_flatMap.2 ⟨_, hmem1, hGv⟩))⟩, by simp [intOf]; omega⟩
    · obtain rfl : i = n := by omega
      go_wp2_with fail
      go_returns
      rw [HE.out] at hR
      exact ⟨rfl, hG, hR, hM, hG2, hR2, hkw⟩
end Go.Proofs.Ytlpinbkgbnbkhaa

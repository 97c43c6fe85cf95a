/- With: a table with one result more. -/
import Derived.Test.YtjdkeabimcajlaaBu
set_option linter.unusedVariables false
set_option linter.unusedSimpArgs false
namespace Go.Proofs.Ytjdkeabimcajlaa
open Go.RowKit

theorem setCells_row {w : World} {b o : Nat} {row P M S vs : List Value} {t : TypeId} (h : Blk w b row.toArray t) (hrow : row = P ++ (M ++ S)) (hP : P.length = o) (hl : vs.length = M.length) (h1 : ∀ v ∈ vs, v.oneCell' = true) :
    w.there b o vs.length ∧ Blk (w.setCells b o vs) b (P ++ (vs ++ S)).toArray t ∧ Keep [b] w (w.setCells b o vs) := by
  have hsz : o + vs.length ≤ row.toArray.size := by rw [hrow]; simp; omega
  have hin : ∀ j, j < vs.length → (w.cell? ⟨b, o + j, none⟩).isSome = true := fun j hj => by
    rw [h.cell (i := o + j) (v := row[o + j]'(by simp at hsz; omega)) (by simp)]; rfl
  have r1 := run_storeCells_cells (P := Try.prog) b o vs 0 w (fun j hj => by simpa using hin j hj) (fun j hj => h.free) h1
  have r2 := run_storeCells_at Try.prog b o t vs 0 row.toArray w h (by simpa using hsz) h1
  rw [r1] at r2
  have e : w.setCells b o vs = w.setRow b (row.take o ++ vs ++ row.drop (o + vs.length)).toArray := by simpa using r2
  refine ⟨fun j hj => ⟨hin j hj, h.free⟩, ?_, ?_⟩
  · rw [e, splice hrow hP hl]; exact h.setRow _
  · rw [e]; exact (Keep.refl [b] w).setRow (Or.inl (by simp)) _

/-- What With and the law's gives: a table and a code. -/
def Give (w : World) (rs : List Res) (code : Int) (e : Ending) (w' : World) : Prop :=
  ∃ a' c', e = .returned (.tuple #[.slice a' rs.length c', .int .i64 code]) ∧ Sl w' 39 65 (.slice a' rs.length c') rs.length (cellsOf rs) ∧ Fr w [] (blks (.slice a' rs.length c')) ∧ Keep [] w w'
theorem Give.nil {w w' : World} {code : Int} (k : Keep [] w w') : Give w [] code (.returned (.tuple #[.slice none 0 0, .int .i64 code])) w' :=
  ⟨none, 0, rfl, Sl.nil _ _ _, by intro b hb; simp [blks, Value.ownBlock] at hb, k⟩
def givR (l : List Res) (x : Res) : List Res := if withC l x = 0 then withR l x else []
theorem giv_no {l : List Res} {x : Res} (h : ¬ (validR l = true ∧ fitR x = true)) : withC l x = 80 ∧ givR l x = [] := by
  have : withC l x = 80 := by simp [withC, h]
  exact ⟨this, by simp [givR, this]⟩
theorem giv_long {l : List Res} {x : Res} (h : validR l = true ∧ fitR x = true) (h' : 32 < (withR l x).length) : withC l x = 97 ∧ givR l x = [] := by
  have : withC l x = 97 := by simp [withC, h, h']
  exact ⟨this, by simp [givR, this]⟩
theorem giv_yes {l : List Res} {x : Res} (h : validR l = true ∧ fitR x = true) (h' : ¬ 32 < (withR l x).length) : withC l x = 0 ∧ givR l x = withR l x := by
  have : withC l x = 0 := by simp [withC, h, h']
  exact ⟨this, by simp [givR, this]⟩

theorem hit_some {l : List Res} {a : List UInt8} {p : Nat} (hp : plc l a = p) (h : hitR l a = true) : ∃ y, l[p]? = some y := by
  subst hp; unfold hitR at h
  cases he : l[plc l a]? with
  | none => rw [he] at h; cases h
  | some y => exact ⟨y, rfl⟩
theorem cells_split {l : List Res} {p : Nat} {y : Res} (h : l[p]? = some y) : cellsOf l = cellsOf (l.take p) ++ (y.cells ++ cellsOf (l.drop (p + 1))) := by
  obtain ⟨hi, e⟩ := List.getElem?_eq_some_iff.1 h
  conv => lhs; rw [show l = l.take p ++ ([y] ++ l.drop (p + 1)) by rw [← e]; simp [List.getElem_cons_drop]]
  rw [cellsOf_append, cellsOf_append, cellsOf_one]
/-- One put in another's place: what lies there then. -/
theorem hit_end2 {l : List Res} {x y : Res} {p n c g : Nat} {w : World} {pre post : List Value} (hvf : validR l = true ∧ fitR x = true) (hp : plc l x.act = p) (hh : hitR l x.act = true) (h32 : l.length ≤ 32)
    (hB : Blk w g ((pre ++ cellsOf (l.take p)) ++ (x.cells ++ (cellsOf (l.drop (p + 1)) ++ post))).toArray 39) (hnc : n ≤ c) (hcp : c * 65 ≤ (cellsOf l).length + post.length) (hcm : c ≤ maxLen) (hs : cellsOf l = cellsOf (l.take p) ++ (y.cells ++ cellsOf (l.drop (p + 1)))) (hl : l.length = n) :
    withC l x = 0 ∧ (givR l x).length = n ∧ Sl w 39 65 (.slice (some ⟨g, pre.length, none⟩) n c) n (cellsOf (givR l x)) := by
  have hlen : (withR l x).length = l.length := by rw [withR_len, if_pos hh]
  obtain ⟨h0, h1⟩ := giv_yes hvf (by omega)
  refine ⟨h0, by rw [h1]; omega, ?_⟩
  rw [h1]
  have hw : withR l x = l.take p ++ ([x] ++ l.drop (p + 1)) := by rw [withR, if_pos hh, hp]
  have hc : cellsOf (withR l x) = cellsOf (l.take p) ++ (x.cells ++ cellsOf (l.drop (p + 1))) := by rw [hw, cellsOf_append, cellsOf_append, cellsOf_one]
  have hcl : (cellsOf (withR l x)).length = n * 65 := by rw [cellsOf_len]; omega
  refine ⟨hcl, Or.inr ⟨g, c, pre, post, rfl, ?_, hnc, ?_, hcm⟩⟩
  · exact blk_of hB (by rw [hc]; simp)
  · rw [hcl]; rw [cellsOf_len, hl] at hcp; exact hcp
theorem give_of {w w' : World} {l : List Res} {x : Res} {a : Option Addr} {n c : Nat} (h0 : withC l x = 0) (hlen : (givR l x).length = n) (hS : Sl w' 39 65 (.slice a n c) n (cellsOf (givR l x))) (hf : Fr w [] (blks (.slice a n c))) (k : Keep [] w w') :
    Give w (givR l x) (withC l x) (.returned (.tuple #[.slice a n c, .int .i64 0])) w' := by
  subst hlen; rw [h0]; exact ⟨a, c, rfl, hS, hf, k⟩
theorem fr_of {w w1 w2 w3 w4 W : World} {S : List Nat} (h : Keep [] w w4 ∧ Fr w2 [] S ∧ W.heap.size ≤ w1.heap.size ∧ w1.heap.size ≤ w2.heap.size ∧ w2.heap.size ≤ w3.heap.size ∧ w3.heap.size ≤ w4.heap.size) (hW : w.heap.size ≤ W.heap.size) : Fr w [] S := fun b hb => by
  rcases h.2.1 b hb with h1 | h1
  · cases h1
  · right; omega
theorem RsIn.of_sl {w : World} {a : Option Addr} {n c : Nat} {l : List Res} (h : Sl w 39 65 (.slice a n c) n (cellsOf l)) (hl : l.length = n) (hn : n ≤ 1000) : RsIn w a n c l := by
  obtain ⟨a', c', e, ea, hrd, hle, hm, hnil⟩ := h.form
  obtain ⟨rfl, rfl⟩ : a = a' ∧ c = c' := by simpa using e
  exact ⟨hl, hrd, hle, hnil, by simpa [maxLen] using hm, by omega⟩

set_option maxHeartbeats 1000000 in
set_option maxRecDepth 100000 in
theorem with_any (a : Option Addr) (n c : Nat) (l : List Res) (x : Res) (w : World) (hx : RsIn w a n c l) :
    Calls Try.prog 22 #[.slice a n c, .agg x.cells.toArray] w (Give w (givR l x) (withC l x)) := by
  obtain ⟨T, hT⟩ : ∃ T, w.heap.size = T := ⟨_, rfl⟩
  obtain ⟨W, hW⟩ : ∃ W, w.alloc (.cells x.cells.toArray 39) = W := ⟨_, rfl⟩
  have BX : Blk W T x.cells.toArray 39 := by rw [← hW, ← hT]; exact Blk.new w _ 39
  have kW : Keep [] w W := by rw [← hW]; exact (Keep.refl [] w).alloc _
  have hxW := hx.keep kW (by simp)
  have HW := Lib.hid hW
  have HT := Lib.hid hT
  clear hW hT
  cases hv : validR l with
  | false =>
    obtain ⟨g1, g2⟩ := giv_no (l := l) (x := x) (by simp [hv])
    have HV := Lib.hid hv
    clear hv
    rw [g1, g2]
    go_enter Try.func22, Try.ntmps22
    go_upto_region 1 with fail
    rw [HW.out, HT.out]
    go_wp2_with (first | (go_at_call 17; refine (valid_any a n c l _ hxW).mono ?_; rintro e w1 ⟨rfl, k1⟩; rw [HV.out]) | fail)
    go_returns
    exact Give.nil (kW.trans' k1)
  | true =>
    cases hf : fitR x with
    | false =>
      obtain ⟨g1, g2⟩ := giv_no (l := l) (x := x) (by simp [hf])
      have HV := Lib.hid hv
      have HF := Lib.hid hf
      clear hv hf
      rw [g1, g2]
      go_enter Try.func22, Try.ntmps22
      go_upto_region 1 with fail
      rw [HW.out, HT.out]
      go_wp2_with (first
        | (go_at_call 17; refine (valid_any a n c l _ hxW).mono ?_; rintro e w1 ⟨rfl, k1⟩; rw [HV.out]; have rx1 := rangeAt_of_blk (BX.keep k1 (by simp)))
        | (go_at_call 42; refine (fits_any x _).mono ?_; rintro e w2 ⟨rfl, k2⟩; rw [HF.out])
        | (refine wpList_load_mid_w 39 (.tmp 3) rfl (by rfl) T 0 rfl x.cells _ rx1 Try.underlying39 rfl (hi39 x) ?_)
        | fail)
      go_returns
      exact Give.nil ((kW.trans' k1).trans' k2)
    | true =>
      have hvf : validR l = true ∧ fitR x = true := ⟨hv, hf⟩
      obtain ⟨h32, hok⟩ : l.length ≤ 32 ∧ okTo l l.length = true := by simpa [validR] using hv
      have hl := hx.hlen
      have n32 : n ≤ 32 := by omega
      have HV := Lib.hid hv
      have HF := Lib.hid hf
      have HO := Lib.hid (And.intro hok (And.intro h32 hl))
      have HVF := Lib.hid hvf
      clear hv hf hok h32 hl hvf
      obtain ⟨N, hN, hso⟩ := size39
      have HN := Lib.hid hN
      clear hN
      go_enter Try.func22, Try.ntmps22
      go_upto_region 1 with fail
      rw [HW.out, HT.out]
      go_upto_region 5 with (first
        | (go_at_call 17; refine (valid_any a n c l _ hxW).mono ?_; rintro e w1 ⟨rfl, k1⟩; rw [HV.out]; have BX1 := BX.keep k1 (by simp); have rx1 := rangeAt_of_blk BX1; have hx1 := hxW.keep k1 (by simp))
        | (go_at_call 42; refine (fits_any x _).mono ?_; rintro e w2 ⟨rfl, k2⟩; rw [HF.out]; have BX2 := BX1.keep k2 (by simp); have hx2 := hx1.keep k2 (by simp))
        | (go_at_call 45; refine (clone_any a n c l _ hx2).mono ?_; rintro e w3 ⟨a3, c3, rfl, s3, f3, k3⟩; have BX3 := BX2.keep k3 (by simp); have rx3 := rangeAt_of_blk BX3)
        | (go_at_call 46; refine (place_any a3 n c3 l x.act _ (RsIn.of_sl s3 HO.out.2.2 (by omega)) HO.out.1 HO.out.2.1 x.la).mono ?_; rintro e w4 ⟨rfl, k4⟩)
        | (refine wpList_load_mid rfl 37 (.tmp 21) rfl T 0 rfl (bs x.act) _ (rangeAt_act rx3) Try.underlying37 rfl (hi37 x.la) ?_)
        | (refine wpList_load_mid_w 39 (.tmp 3) rfl (by rfl) T 0 rfl x.cells _ rx1 Try.underlying39 rfl (hi39 x) ?_)
        | fail)
      have kk := ((((kW.trans' k1).trans' k2).trans' k3).trans' k4)
      have HK := Lib.hid (And.intro kk (And.intro f3 (And.intro k1.size (And.intro k2.size (And.intro k3.size k4.size)))))
      have s4 := s3.keep k4 (by simp)
      have BX4 := BX3.keep k4 (by simp)
      have rx4 := rangeAt_of_blk BX4
      have hT3 : T ∉ blks (.slice a3 n c3) := fun hb => by
        rcases f3 T hb with h | h
        · cases h
        · have := BX2.lt; omega
      obtain ⟨p, hp⟩ : ∃ p, plc l x.act = p := ⟨_, rfl⟩
      have HP := Lib.hid hp
      rw [hp]
      clear hp kk k1 k2 k3 k4 f3 s3 BX BX1 BX2 BX3 rx1 rx3 hx1 hx2 hxW hx kW
      cases hh : hitR l x.act with
      | true =>
        obtain ⟨y, hy⟩ : ∃ y, l[p]? = some y := hit_some HP.out hh
        have hpn : p < n := by have := (List.getElem?_eq_some_iff.1 hy).1; have := HO.out.2.2; omega
        rcases s4.2 with ⟨e, h0⟩ | ⟨g, cap, pre, post, e, hb, hnc, hcp, hcm⟩
        · omega
        obtain ⟨rfl, rfl⟩ : a3 = some ⟨g, pre.length, none⟩ ∧ c3 = cap := by simpa using e
        have hspl := cells_split hy
        obtain ⟨tt, hB, hkp⟩ := setCells_row (vs := x.cells) (P := pre ++ cellsOf (l.take p)) (M := y.cells) (S := cellsOf (l.drop (p + 1)) ++ post) (o := pre.length + p * 65) hb (by rw [hspl]; simp) (by rw [List.length_append, cellsOf_len, List.length_take, Nat.min_eq_left (by have := (List.getElem?_eq_some_iff.1 hy).1; omega)]) (by rw [x.len, y.len]) x.one
        have HR := Lib.hid (hit_end2 HVF.out HP.out hh HO.out.2.1 hB hnc hcp hcm hspl HO.out.2.2)
        rw [HN.out] at tt hB hkp HR
        have HX1 := Lib.hid x.one
        have i0 : (0 : Int) ≤ p := by omega
        have i1 : (p : Int) < n := by omega
        clear hspl hy hb hB hnc hcp hcm s4 e hpn
        have HK2 := Lib.hid (And.intro HK.out.1 (fr_of HK.out (by rw [← HW.out]; simp)))
        obtain ⟨off, hoff⟩ : ∃ off, pre.length = off := ⟨_, rfl⟩
        rw [hoff] at tt hkp HR HK2 ⊢
        clear hoff HK hT3 hh
        go_wp2_with (first
          | (refine wpList_load_mid rfl 39 (.tmp 3) rfl T 0 rfl x.cells _ rx4 Try.underlying39 rfl (hi39 x) ?_)
          | (refine wpList_store_mid rfl 39 (.tmp 30) (.tmp 29) rfl g (off + p * N) x.cells.toArray rfl rfl tt (hi39 x) (all_oneCell_toArray HX1.out) ?_)
          | fail)
        go_returns
        exact give_of HR.out.1 HR.out.2.1 (by have := HR.out.2.2; rw [← HN.out] at this; rw [← HN.out]; exact this) HK2.out.2 (HK2.out.1.trans hkp (fun b hb => by rcases HK2.out.2 b (by simpa [blks, Value.ownBlock] using hb) with h | h; cases h; exact Or.inr h))
      | false =>
        have HK2 := Lib.hid (And.intro HK.out.1 (fr_of HK.out (by rw [← HW.out]; simp)))
        have hlen : (withR l x).length = n + 1 := by rw [withR_len, if_neg (by simp [hh]), HO.out.2.2]
        have hR : givR l x = withR l x → givR l x = l.take p ++ ([x] ++ l.drop p) := fun e => by rw [e, withR, if_neg (by simp [hh]), HP.out]
        have hpl : p ≤ n := by have := plc_le l x.act; rw [HP.out, HO.out.2.2] at this; exact this
        have HS := Lib.hid (And.intro hlen (And.intro hR hpl))
        clear hlen hR HK hh hpl
        by_cases hn : n = 32
        · obtain ⟨g1, g2⟩ := giv_long HVF.out (by rw [HS.out.1]; omega)
          have HG := Lib.hid (And.intro g1 g2)
          clear g1 g2
          subst hn
          go_wp2_with fail
          go_returns
          rw [HG.out.1, HG.out.2]
          exact Give.nil HK2.out.1
        · have q : ((n : Int) == 32) = false := by simp; omega
          obtain ⟨g1, g2⟩ := giv_yes HVF.out (by rw [HS.out.1]; omega)
          have HG := Lib.hid (And.intro g1 g2)
          clear g1 g2
          obtain ⟨H, hH⟩ : ∃ H, w4.heap.size = H := ⟨_, rfl⟩
          obtain ⟨W5, hW5⟩ : ∃ W5, w4.alloc (.cells x.cells.toArray 39) = W5 := ⟨_, rfl⟩
          have BV : Blk W5 H x.cells.toArray 39 := by rw [← hW5, ← hH]; exact Blk.new w4 _ 39
          have k5 : Keep [] w4 W5 := by rw [← hW5]; exact (Keep.refl [] w4).alloc _
          have s5 := s4.keep k5 (by simp)
          have hv5 : H ∉ blks (.slice a3 n c3) := fun hb => by have := s4.lt H hb; omega
          have HW5 := Lib.hid hW5
          have HH := Lib.hid hH
          clear hW5 hH
          go_upto_region 10 with fail
          go_wp2_with (first
            | (refine wpList_load_mid rfl 39 (.tmp 3) rfl T 0 rfl x.cells _ rx4 Try.underlying39 rfl (hi39 x) ?_)
            | (refine wpList_build1 rfl 22 39 (.tmp 37) rfl x.cells.toArray rfl (.agg Try.zeroCells39) 65 72 Try.underlying22 info39 (by simp [x.len]) (by omega) (by omega) ?_; rw [HW5.out, HH.out])
            | (go_at_call 47; refine (insert_any a3 n c3 p l x H W5 s5 HO.out.2.2 HS.out.2.2 (by omega) BV hv5).mono ?_; rintro e w6 ⟨a6, c6, rfl, s6, f6, k6⟩)
            | fail)
          go_returns
          refine give_of HG.out.1 (by rw [HG.out.2]; exact HS.out.1) (by rw [HS.out.2.1 HG.out.2]; exact s6) ?_ ?_
          · exact HK2.out.2.trans f6 (by have h1 := HK2.out.1.size; have h2 := k5.size; omega)
          · exact (HK2.out.1.trans' k5).trans k6 (fun b hb => by rcases HK2.out.2 b hb with h | h; cases h; exact Or.inr h)
end Go.Proofs.Ytjdkeabimcajlaa

/- DigestPieces: the walk. -/
import Derived.Test.YtlpinbkgbnbkhaaX
import Derived.Test.YtlpinbkgbnbkhaaOpenE
import Derived.Test.YtlpinbkgbnbkhaaSm
set_option linter.unusedVariables false
set_option linter.unusedSimpArgs false
namespace Go.Proofs.Ytlpinbkgbnbkhaa
open Go.RowKit
attribute [local go_sem ↓] Go.wp_at_zero Go.wp_at_succ

/-- Values that are slices of rows of bytes, at a world. -/
def PiecesAt (w : World) (vs : List Value) (xss : List (List UInt8)) : Prop := vs.length = xss.length ∧ ∀ i (h : i < xss.length), ∃ a l c, vs[i]? = some (.slice a l c) ∧ InBytes w a l c xss[i]
theorem PiecesAt.nil (w : World) : PiecesAt w [] [] := ⟨rfl, fun i h => by simp at h⟩
theorem PiecesAt.snoc {w : World} {vs : List Value} {xss : List (List UInt8)} {a : Option Addr} {l c : Nat} {x : List UInt8} (h : PiecesAt w vs xss) (hx : InBytes w a l c x) : PiecesAt w (vs ++ [.slice a l c]) (xss ++ [x]) := by
  refine ⟨by simp [h.1], fun i hi => ?_⟩
  simp only [List.length_append, List.length_cons, List.length_nil] at hi
  by_cases h1 : i < xss.length
  · obtain ⟨a1, l1, c1, g1, g2⟩ := h.2 i h1
    refine ⟨a1, l1, c1, by rw [List.getElem?_append_left (by rw [h.1]; exact h1)]; exact g1, ?_⟩
    rw [List.getElem_append_left h1]; exact g2
  · obtain rfl : i = xss.length := by omega
    refine ⟨a, l, c, ?_, ?_⟩
    · rw [← h.1, List.getElem?_append_right (Nat.le_refl _)]; simp
    · rw [List.getElem_append_right (Nat.le_refl _)]; simpa using hx
theorem PiecesAt.rows {w w' : World} {vs : List Value} {xss : List (List UInt8)} {a : Option Addr} {n c : Nat} (h : PiecesAt w vs xss) (k : Keep [] w w') (hS : Sl w' 29 1 (.slice a n c) n vs) : RowsAt w' a n vs xss := by
  obtain ⟨h1, h2, h3, h4, h5⟩ := Sl.use hS
  have hl : vs.length = n := by have := hS.1; omega
  refine ⟨hl, by rw [← h.1]; exact hl, h3, fun i hi => ?_⟩
  obtain ⟨a1, l1, c1, g1, g2⟩ := h.2 i hi
  exact ⟨a1, l1, c1, g1, g2.keep k (by simp)⟩
/-- The first n bytes of a row, and the others. -/
theorem InBytes.first {w : World} {a : Option Addr} {l c n : Nat} {xs : List UInt8} (h : InBytes w a l c xs) (hn : n ≤ l) : InBytes w a n c (xs.take n) := by
  have hl := h.hlen
  refine ⟨by rw [List.length_take]; omega, ?_, by have := h.hle; omega, h.hnil, h.reach, by have := h.short; omega⟩
  rcases h.rd with e | ⟨b, off, e, hc⟩
  · have : xs = [] := by simpa [bs] using e
    subst this; exact Or.inl (by simp)
  · refine Or.inr ⟨b, off, e, fun k v hv => hc k v ?_⟩
    rw [bs, List.map_take, List.getElem?_take] at hv
    split at hv
    · exact hv
    · cases hv
theorem InBytes.later {w : World} {a a' : Option Addr} {l c n : Nat} {xs : List UInt8} (h : InBytes w a l c xs) (hn : n ≤ l) (ha : n < l → ∀ b off, a = some ⟨b, off, none⟩ → a' = some ⟨b, off + n, none⟩) (hnil : a' = none → c - n = 0) : InBytes w a' (l - n) (c - n) (xs.drop n) := by
  have hl := h.hlen
  refine ⟨by rw [List.length_drop]; omega, ?_, by have := h.hle; omega, hnil, by have := h.reach; omega, by have := h.short; omega⟩
  by_cases hlt : n < l
  · rcases h.rd with e | ⟨b, off, e, hc⟩
    · have : xs = [] := by simpa [bs] using e
      subst this; exact Or.inl (by simp)
    · refine Or.inr ⟨b, off + n, ha hlt b off e, fun k v hv => ?_⟩
      rw [Nat.add_assoc]
      refine hc (n + k) v ?_
      rw [← hv]; simp only [bs, List.getElem?_map, List.getElem?_drop]
  · rw [List.drop_eq_nil_of_le (by omega)]; exact Or.inl rfl


theorem InInts.at {w : World} {a : Option Addr} {l cap i : Nat} {ns : List Int} (h : InInts w a l cap ns) (hi : i < l) : ∃ n b off, ns[i]? = some n ∧ a = some ⟨b, off, none⟩ ∧ w.cell? ⟨b, off + i, none⟩ = some (.int .i64 n) ∧ (Lit.int .i64 n).wf = true := by
  have hl := h.hlen
  have hg := List.getElem?_eq_getElem (l := ns) (i := i) (by omega)
  rcases h.rd with e | ⟨b, off, e, hc⟩
  · have : ns = [] := by simpa using e
    subst this; simp at hl; omega
  · exact ⟨_, b, off, hg, e, hc i _ (by rw [List.getElem?_map, hg]; rfl), h.wf _ (List.getElem_mem _)⟩
theorem InInts.keep {w w' : World} {a : Option Addr} {l cap : Nat} {ns : List Int} (h : InInts w a l cap ns) (k : Keep [] w w') : InInts w' a l cap ns := ⟨h.hlen, h.rd.keep k (by simp), h.wf, h.hle, h.hnil, h.max⟩

set_option maxHeartbeats 8000000 in
set_option maxRecDepth 100000 in
theorem digestPieces_walk (a : Option Addr) (len cap : Nat) (xs : List UInt8) (pc : Option Addr) (cn cc : Nat) (ns : List Int) (w : World) (hx : InBytes w a len cap xs) (hc : InInts w pc cn cc ns) :
    Calls Try.prog 9 #[.slice a len cap, .slice pc cn cc] w fun e w' => e = .returned (.bool true) ∧ Keep [] w w' := by
  obtain ⟨Z, hz, hZ⟩ := zeroHash
  have HZ := Lib.hid hZ
  clear hZ
  have m1 := hx.short
  have m2 := hc.hle
  have m3 := hc.max
  unfold maxLen at m3
  go_enter Try.func9, Try.ntmps9
  go_upto_region 4 with (first
    | (go_at_call 13; refine (known_any _).mono ?_; rintro e w1 ⟨rfl, hk1⟩)
    | fail)
  obtain ⟨W1, hW1⟩ : ∃ W, w1.alloc (.cells Z 53) = W := ⟨_, rfl⟩
  obtain ⟨H, hH⟩ : ∃ P, w1.heap.size = P := ⟨_, rfl⟩
  have hH0 := HZ.out W1 H (by rw [← hW1, ← hH]; exact Blk.new w1 Z 53)
  have k1 : Keep [] w W1 := by rw [← hW1]; exact hk1.alloc _
  have pH : w.heap.size ≤ H := by have := hk1.size; omega
  have pH1 : H < W1.heap.size := by rw [← hW1]; simp; omega
  rw [hW1, hH]
  clear hW1 hH hk1 hz HZ
  go_upto_region 6 with fail
  go_wp2_with fail
  go_loopw [6, 7, 8] (fun v6 v7 v8 wr => ∃ (k j m cm : Nat) (am : Option Addr) (ap : Option Addr) (cp : Nat) (vs : List Value) (xss : List (List UInt8)), k ≤ cn ∧ k ≤ 60 ∧ v8 = .int .i64 (k : Nat) ∧ v7 = .slice am m cm ∧ v6 = .slice ap k cp ∧ InBytes w am m cm (xs.drop j) ∧ m ≤ len ∧ Hid (xss.flatten = xs.take j) ∧ PiecesAt w vs xss ∧ Sl wr 29 1 (.slice ap k cp) k vs ∧ Fr W1 [] (blks (.slice ap k cp)) ∧ HashAt wr H (xs.take j) ∧ Keep [H] W1 wr) (fun _ _ v8 _ => cn - (intOf v8).toNat)
  case atStart => exact ⟨0, 0, len, cap, a, none, 0, [], [], by omega, by omega, rfl, rfl, rfl, by simpa using hx, by omega, Lib.hid (by simp), PiecesAt.nil _, Sl.nil _ _ _, by intro b hb; simp [blks, Value.ownBlock] at hb, by simpa using hH0, Keep.refl _ _⟩
  case round =>
    clear hH0
    obtain ⟨k, j, m, cm, am, ap, cp, vs, xss, hk1, hk2, rfl, rfl, rfl, hb, hml, HF, hP, hS, hFr, hHH, hkr⟩ := hrel
    have kw : Keep [] w wr := k1.trans hkr (by simpa using pH)
    by_cases hlt : k < cn ∧ k < 60
    · obtain ⟨q1, q2⟩ := hlt
      obtain ⟨n, b, off, hn, rfl, hcell, hwf⟩ := (hc.keep kw).at q1
      have i1 : (k : Int) < cn := by omega
      have i2 : (k : Int) < 60 := by omega
      have i3 : (m : Int) + 1 ≤ 140737488351233 := by omega
      obtain ⟨L, hL⟩ : ∃ L : Int, (m : Int) + 1 = L := ⟨_, rfl⟩
      obtain ⟨t, ht⟩ : ∃ t, n.tmod L = t := ⟨_, rfl⟩
      have t1 : -L < t := by rw [← ht]; exact Int.lt_tmod_of_pos n (by omega)
      have t2 : t < L := by rw [← ht]; exact Int.tmod_lt_of_pos n (by omega)
      have l0 : (L == 0) = false := by simp; omega
      have w1 : IntKind.i64.wrap t = t := IntWalk.i64_in _ (by omega)
      have hcm := hb.hle
      have hre := hb.reach
      have hway : ∃ q : Nat, q ≤ m ∧ ((t < 0 ∧ t + (m : Int) + 1 = q ∧ t + (m : Int) ≤ 140737488351233 ∧ -1 ≤ t + (m : Int) ∧ IntKind.i64.wrap (t + (m : Int)) = t + m ∧ IntKind.i64.wrap (t + (m : Int) + 1) = q) ∨ (¬ t < 0 ∧ t = q)) := by
        by_cases hneg : t < 0
        · refine ⟨(t + m + 1).toNat, by omega, Or.inl ⟨hneg, by omega, by omega, by omega, IntWalk.i64_in _ (by omega), ?_⟩⟩
          rw [IntWalk.i64_in _ (by omega)]; omega
        · exact ⟨t.toNat, by omega, Or.inr ⟨hneg, by omega⟩⟩
      obtain ⟨q, hqm, hway⟩ := hway
      have q3 : (q : Int) ≤ cm := by omega
      have q4 : (0 : Int) ≤ q := by omega
      have q5 : (q : Int) ≤ 140737488351232 := by omega
      have q6 : IntKind.i64.wrap (q : Int) = q := IntWalk.i64_in _ (by omega)
      have HQ6 := Lib.hid q6
      clear q6
      have hf := hb.first hqm
      have HC := Lib.hid hc
      have HB := Lib.hid hb
      clear t1 t2
      have HX7 := Lib.hid hb
      rcases hway with ⟨hneg, g1, g2, g3, g4, g5⟩ | ⟨hneg, g1⟩
      rotate_left
      have G1 := Lib.hid g1
      clear g1
      rotate_left
      all_goals
        go_upto_region 12 with fail
      rotate_left
      have g1 := G1.out
      subst g1
      rotate_left
      all_goals
        clear hL l0 w1 hneg
        go_upto_region 13 with (first
          | (at_builtin; go_must (refine wpList_append1 wr rfl (.tmp 39) (.tmp 43) 22 rfl 29 (.slice none 0 0) 24 Try.underlying22 info29 rfl (.slice am q cm) rfl (.slice ap k cp) k vs rfl hS rfl (by simp only [maxLen]; omega) (by omega) ?_; intro a1 c1 w6 hs1 hk1 hf1))
          | fail)
        have kH6 : HashAt w6 H (xs.take j) := hHH.keep hk1 (fun h => by have := hFr.out H h; omega)
        have hab : (xs.drop j).take q ≠ [] → ablk am ≠ H := fun hne => by have := hf.blk hne; omega
        have kpw : Keep [] w w6 := kw.trans hk1 (fun b hb => by have := hFr.out b hb; have := k1.size; exact Or.inr (by omega))
        have hf6 := hf.keep kpw (by simp)
        have hwr := write_any H (xs.take j) ((xs.drop j).take q) q cm am w6 kH6 hf6.hlen hf6.hle hf6.reach hf6.rd hab
        have HW := Lib.hid hwr
        have HHF := Lib.hid hf
        clear hwr hf hf6 hab hHH hb
        go_upto_region 14 with (first
          | (go_at_call 29; refine HW.out.mono ?_; rintro e w7 ⟨rfl, hH7, hk7⟩)
          | fail)
        go_wp2_with fail
        have hq7 := HHF.out
        have hin := HX7.out.later (a' := if cm = q then am else Option.map (fun x => x.add q) am) hqm (fun hlt2 b2 o2 e => by
          have hne : ¬ cm = q := by omega
          rw [if_neg hne, e]; simp [add_off]) (fun e => by
          by_cases hcq : cm = q
          · omega
          · rw [if_neg hcq] at e
            cases am with
            | none => have := HX7.out.hnil rfl; omega
            | some ad => cases e)
        rw [List.drop_drop] at hin
        refine ⟨⟨k + 1, j + q, m - q, cm - q, _, a1, c1, vs ++ [.slice am q cm], xss ++ [(xs.drop j).take q], by omega, by omega, by go_num, rfl, rfl, hin, by omega, Lib.hid ?_, hP.snoc hq7, hs1.keep hk7 (fun b2 hb2 => by
          simp only [List.mem_singleton]; rintro rfl
          have := (hFr.trans (hf1.le hkr.size) (Nat.le_refl _)).out _ hb2; omega), (hFr.trans (hf1.le hkr.size) (Nat.le_refl _)), ?_, ?_⟩, by simp [intOf]; omega⟩
        · rw [List.flatten_append, HF.out, List.take_add]; simp
        · rw [List.take_add]; exact hH7
        · exact (hkr.trans hk1 (fun b2 hb2 => by have := hFr.out b2 hb2; exact Or.inr this)).trans hk7 (fun b2 hb2 => Or.inl hb2)
    · have hw0 : ¬ k < cn ∨ (k < cn ∧ ¬ k < 60) := by omega
      have hcm := hb.hle
      have hre := hb.reach
      have HX7 := Lib.hid hb
      have hcount : k + 1 ≤ 61 := by omega
      clear hlt hb
      rcases hw0 with i1 | ⟨i1, i2⟩
      all_goals
        go_upto_region 16 with (first
          | (at_builtin; go_must (refine wpList_append1 wr rfl (.tmp 52) (.tmp 54) 22 rfl 29 (.slice none 0 0) 24 Try.underlying22 info29 rfl (.slice am m cm) rfl (.slice ap k cp) k vs rfl hS rfl (by simp only [maxLen]; omega) (by omega) ?_; intro a1 c1 w6 hs1 hk1 hf1))
          | fail)
        have kH6 : HashAt w6 H (xs.take j) := hHH.keep hk1 (fun h => by have := hFr.out H h; omega)
        have hf := HX7.out
        have hab : xs.drop j ≠ [] → ablk am ≠ H := fun hne => by have := hf.blk hne; omega
        have kpw : Keep [] w w6 := kw.trans hk1 (fun b hb => by have := hFr.out b hb; have := k1.size; exact Or.inr (by omega))
        have hf6 := hf.keep kpw (by simp)
        have hwr := write_any H (xs.take j) (xs.drop j) m cm am w6 kH6 hf6.hlen hf6.hle hf6.reach hf6.rd hab
        rw [List.take_append_drop] at hwr
        have HW := Lib.hid hwr
        have hPs := hP.snoc hf
        have hflat : (xss ++ [xs.drop j]).flatten = xs := by rw [List.flatten_append, HF.out]; simp
        have HFL := Lib.hid hflat
        have hfr1 := hFr.trans (hf1.le hkr.size) (Nat.le_refl _)
        clear hwr hf hf6 hab hHH hflat
        go_upto_region 17 with (first
          | (go_at_call 29; refine HW.out.mono ?_; rintro e w7 ⟨rfl, hH7, hk7⟩)
          | fail)
        have hs7 := hs1.keep hk7 (fun b2 hb2 => by
          simp only [List.mem_singleton]; rintro rfl
          have := hfr1.out _ hb2; omega)
        have kw7 : Keep [] w w7 := kpw.trans hk7 (by simpa using pH)
        obtain ⟨D, hD⟩ : ∃ D, sha xs = D := ⟨_, rfl⟩
        have hDl := sha_length xs
        rw [hD] at hDl
        have D32 := size32 D hDl
        have hfull := full_any _ 1 1 _ _ _ (rowsAt1 (hx.keep kw7 (by simp)) _ rfl) (by omega)
        rw [show [xs].flatten = xs by simp, hD] at hfull
        have HF2 := Lib.hid hfull
        have HDD := Lib.hid D32
        have HDE := Lib.hid hD
        have HDL := Lib.hid hDl
        clear hfull D32 hD hDl HW
        go_upto_region 18 with (first
          | (go_at_call 15; refine HF2.out.mono ?_; rintro e w8 ⟨rfl, hk8⟩)
          | (refine wpList_store_last rfl 26 (.tmp 10) (.tmp 60) rfl _ _ (bs D).toArray rfl rfl rfl (by rw [HDD.out]; rfl) (by rw [HDD.out]; rfl) (bs_all _) ?_)
          | fail)
        have k78 : Keep [] w7 (w8.alloc (.cells (bs D).toArray 26)) := (((Keep.refl [] w7).alloc (.cells #[.slice a len cap] 29)).trans' hk8).alloc _
        have BF : Blk (w8.alloc (.cells (bs D).toArray 26)) w8.heap.size (bs D).toArray 26 := Blk.new _ _ _
        obtain ⟨W8, hW8⟩ : ∃ W, w8.alloc (.cells (bs D).toArray 26) = W := ⟨_, rfl⟩
        obtain ⟨P, hP8⟩ : ∃ P, w8.heap.size = P := ⟨_, rfl⟩
        rw [hP8] at BF ⊢
        rw [hW8] at k78 BF ⊢
        have k8 := kw7.trans' k78
        have hx8 := hx.keep k8 (by simp)
        have hH8 := hH7.keep k78 (by simp)
        have hs8 := hs7.keep k78 (by simp)
        obtain ⟨I, hI⟩ : ∃ I, shaId 32 xs = I := ⟨_, rfl⟩
        have Il : I.length = 32 := by rw [← hI]; exact shaId_length _ _
        have S31 := Lib.hid (fun (W : World) (kk : Keep [] W8 W) => sum_any (some ⟨H, 0, none⟩) xs W (Or.inr ⟨H, rfl, hH8.keep kk (by simp)⟩))
        rw [HDE.out] at S31
        have F15 := Lib.hid (fun (W : World) (kk : Keep [] W8 W) => full_any a1 (k + 1) c1 _ _ W (hPs.rows (k8.trans' kk) (hs8.keep kk (by simp))) (by omega))
        rw [HFL.out, HDE.out] at F15
        have F21 := Lib.hid (fun (W : World) (kk : Keep [] W8 W) => of_any 32 a1 (k + 1) c1 _ _ W (hPs.rows (k8.trans' kk) (hs8.keep kk (by simp))) (by omega))
        rw [HFL.out, hI] at F21
        have F21s := Lib.hid (fun (W : World) (pp : Option Addr) (h : RowsE W pp 1 [xs]) => of_any 32 pp 1 1 h.choose [xs] W h.choose_spec (by omega))
        rw [show [xs].flatten = xs by simp, hI] at F21s
        have F16 := Lib.hid (fun (W : World) (kk : Keep [] W8 W) => refFull_any xs len cap a W (hx8.keep kk (by simp)) (by omega))
        rw [HDE.out] at F16
        have hS8 : W8.rangeAt P 0 (bs D) ∧ W8.rangeAt P 0 (bs D) ∧ Keep [] W8 W8 := ⟨rangeAt_of_blk BF, rangeAt_of_blk BF, Keep.refl _ _⟩
        have q1' : ∀ W, (Op.equalIn 10000 26 (.agg (bs D).toArray) (.agg (bs D).toArray)).run Try.prog W = .ok true W := fun W => same26 _ HDL.out W
        have q2' : ∀ W, (Op.equalIn 10000 33 (.agg (bs I).toArray) (.agg (bs I).toArray)).run Try.prog W = .ok true W := fun W => same33 _ Il W
        have hu := Try.underlying26
        have hi1 : (Try.prog.info? 26).map (·.size) = some (bs D).length := by rw [bs_length, HDL.out]; rfl
        clear hI Il BF hW8 hP8 hk8 k78 hH8 hs8 hs7 hH7 hk7 HF2
        refine wp_region_noPanic ?_
        refine wp_region_held_drew (S := fun w' => w'.rangeAt P 0 (bs D) ∧ w'.rangeAt P 0 (bs D) ∧ Keep [] W8 w') (by kernel_rfl) ?_ (fun hHeld0 => ?_)
        · (try dsimp only); first | exact held2 hS8 ((Keep.refl [] _).drew) | exact held2 (by assumption) hk | exact held2 (by assumption) ((Keep.refl [] _).alloc _)
        refine wpAnyH_take (i := 0) (oi := ({ dst := some 61, op := Go.Op.move (Go.Operand.tmp 6), type := 22, pos := "hash.go:83", after := #[], guard := none } : Oper)) (v := ?_) rfl (by kernel_rfl) (by kernel_rfl) (by kernel_rfl) (fun _ _ _ h => h) (Or.inl ⟨by rfl, ?_⟩) (by assumption) ?_
        rotate_left
        · (intro w hSw; (try dsimp only at hSw); go_simp; try with_reducible rfl)
        try simp only [Act.put, List.setIfInBounds_toArray, List.set_cons_zero, List.set_cons_succ]
        refine wpAnyH_take (i := 2) (oi := ({ dst := some 63, op := Go.Op.load 26 (Go.Operand.tmp 10), type := 26, pos := "hash.go:83", after := #[], guard := none } : Oper)) (v := .agg (List.toArray (bs D))) rfl (by kernel_rfl) (by kernel_rfl) (by kernel_rfl) (fun _ _ _ h => h) (yieldsIf_load_mid (by rfl) _ _ rfl _ _ rfl (bs D) _ (fun w hSw => hSw.1) hu rfl hi1) (by assumption) ?_
        try simp only [Act.put, List.setIfInBounds_toArray, List.set_cons_zero, List.set_cons_succ]
        refine wpAnyH_ready (rs := [1]) (by kernel_rfl) (by simp) ?_
        refine (AllReadyH.cons (o := ({ dst := some 62, op := Go.Op.call { callee := Go.Callee.value (Go.Operand.func 15), args := #[Go.Operand.tmp 61], argTypes := #[22] }, type := 26, pos := "hash.go:83", after := #[{ on := 0, ground := Go.Ground.data }], guard := none } : Oper)) rfl (fun K hK => ?_) AllReadyH.nil)
        go_simp
        (refine (F15.out _ ?_).mono ?_; (repeat (first | assumption | exact Keep.refl _ _ | exact (Keep.refl [] _).drew | refine Keep.alloc ?_ _ | refine Keep.trans' ?_ (by assumption))); rintro e w' ⟨rfl, hk⟩)
        go_wp2_with fail
        refine hK.out _ _ ?_ (fun hHeld1 => ?_)
        · (try dsimp only); first | exact held2 hS8 ((Keep.refl [] _).drew) | exact held2 (by assumption) hk | exact held2 (by assumption) ((Keep.refl [] _).alloc _)
        clear hK K
        try simp only [Act.put, List.setIfInBounds_toArray, List.set_cons_zero, List.set_cons_succ]
        refine wpAnyH_take (i := 3) (oi := ({ dst := some 64, op := Go.Op.binOp Go.BinOp.eql 26 (Go.Operand.tmp 62) (Go.Operand.tmp 63) 26, type := 4, pos := "hash.go:83", after := #[{ on := 1, ground := Go.Ground.data }, { on := 2, ground := Go.Ground.data }], guard := none } : Oper)) (v := ?_) rfl (by kernel_rfl) (by kernel_rfl) (by kernel_rfl) (fun _ _ _ h => h) (Or.inl ⟨by rfl, ?_⟩) (by assumption) ?_
        rotate_left
        · (intro w hSw; (try dsimp only at hSw); go_simp; try with_reducible rfl)
        try simp only [Act.put, List.setIfInBounds_toArray, List.set_cons_zero, List.set_cons_succ]
        refine wpAnyH_take (i := 4) (oi := ({ dst := some 65, op := Go.Op.move (Go.Operand.tmp 64), type := 4, pos := "hash.go:83", after := #[{ on := 3, ground := Go.Ground.data }, { on := 1, ground := Go.Ground.chain }], guard := none } : Oper)) (v := ?_) rfl (by kernel_rfl) (by kernel_rfl) (by kernel_rfl) (fun _ _ _ h => h) (Or.inl ⟨by rfl, ?_⟩) (by assumption) ?_
        rotate_left
        · (intro w hSw; (try dsimp only at hSw); go_simp; try with_reducible rfl)
        try simp only [Act.put, List.setIfInBounds_toArray, List.set_cons_zero, List.set_cons_succ]
        refine wpAnyH_take (i := 6) (oi := ({ dst := some 67, op := Go.Op.load 26 (Go.Operand.tmp 10), type := 26, pos := "hash.go:83", after := #[{ on := 4, ground := Go.Ground.guard }], guard := some (4, true) } : Oper)) (v := .agg (List.toArray (bs D))) rfl (by kernel_rfl) (by kernel_rfl) (by kernel_rfl) (fun _ _ _ h => h) (yieldsIf_load_mid (by rfl) _ _ rfl _ _ rfl (bs D) _ (fun w hSw => hSw.1) hu rfl hi1) (by assumption) ?_
        try simp only [Act.put, List.setIfInBounds_toArray, List.set_cons_zero, List.set_cons_succ]
        refine wpAnyH_ready (rs := [5]) (by kernel_rfl) (by simp) ?_
        refine (AllReadyH.cons (o := ({ dst := some 66, op := Go.Op.call { callee := Go.Callee.value (Go.Operand.func 31), args := #[Go.Operand.tmp 5], argTypes := #[53] }, type := 26, pos := "hash.go:83", after := #[{ on := 4, ground := Go.Ground.chain }, { on := 4, ground := Go.Ground.guard }], guard := some (4, true) } : Oper)) rfl (fun K hK => ?_) AllReadyH.nil)
        go_simp
        (refine (S31.out _ ?_).mono ?_; (repeat (first | assumption | exact Keep.refl _ _ | exact (Keep.refl [] _).drew | refine Keep.alloc ?_ _ | refine Keep.trans' ?_ (by assumption))); rintro e w' ⟨rfl, hk⟩)
        go_wp2_with fail
        refine hK.out _ _ ?_ (fun hHeld2 => ?_)
        · (try dsimp only); first | exact held2 hS8 ((Keep.refl [] _).drew) | exact held2 (by assumption) hk | exact held2 (by assumption) ((Keep.refl [] _).alloc _)
        clear hK K
        try simp only [Act.put, List.setIfInBounds_toArray, List.set_cons_zero, List.set_cons_succ]
        refine wpAnyH_take (i := 7) (oi := ({ dst := some 68, op := Go.Op.binOp Go.BinOp.eql 26 (Go.Operand.tmp 66) (Go.Operand.tmp 67) 26, type := 4, pos := "hash.go:83", after := #[{ on := 5, ground := Go.Ground.data }, { on := 6, ground := Go.Ground.data }, { on := 4, ground := Go.Ground.guard }], guard := some (4, true) } : Oper)) (v := ?_) rfl (by kernel_rfl) (by kernel_rfl) (by kernel_rfl) (fun _ _ _ h => h) (Or.inl ⟨by rfl, ?_⟩) (by assumption) ?_
        rotate_left
        · (intro w hSw; (try dsimp only at hSw); go_simp; try with_reducible rfl)
        try simp only [Act.put, List.setIfInBounds_toArray, List.set_cons_zero, List.set_cons_succ]
        refine wpAnyH_take (i := 8) (oi := ({ dst := some 69, op := Go.Op.pick (Go.Operand.tmp 65) (Go.Operand.tmp 68) (Go.Operand.const (Go.Value.bool false)), type := 4, pos := "hash.go:83", after := #[{ on := 4, ground := Go.Ground.data }, { on := 7, ground := Go.Ground.data }], guard := none } : Oper)) (v := ?_) rfl (by kernel_rfl) (by kernel_rfl) (by kernel_rfl) (fun _ _ _ h => h) (Or.inl ⟨by rfl, ?_⟩) (by assumption) ?_
        rotate_left
        · (intro w hSw; (try dsimp only at hSw); go_simp; try with_reducible rfl)
        try simp only [Act.put, List.setIfInBounds_toArray, List.set_cons_zero, List.set_cons_succ]
        refine wpAnyH_take (i := 9) (oi := ({ dst := some 70, op := Go.Op.move (Go.Operand.tmp 69), type := 4, pos := "hash.go:83", after := #[{ on := 8, ground := Go.Ground.data }, { on := 5, ground := Go.Ground.chain }], guard := none } : Oper)) (v := ?_) rfl (by kernel_rfl) (by kernel_rfl) (by kernel_rfl) (fun _ _ _ h => h) (Or.inl ⟨by rfl, ?_⟩) (by assumption) ?_
        rotate_left
        · (intro w hSw; (try dsimp only at hSw); go_simp; try with_reducible rfl)
        try simp only [Act.put, List.setIfInBounds_toArray, List.set_cons_zero, List.set_cons_succ]
        refine wpAnyH_take (i := 10) (oi := ({ dst := some 71, op := Go.Op.move (Go.Operand.tmp 6), type := 22, pos := "hash.go:83", after := #[{ on := 9, ground := Go.Ground.guard }], guard := some (9, true) } : Oper)) (v := ?_) rfl (by kernel_rfl) (by kernel_rfl) (by kernel_rfl) (fun _ _ _ h => h) (Or.inl ⟨by rfl, ?_⟩) (by assumption) ?_
        rotate_left
        · (intro w hSw; (try dsimp only at hSw); go_simp; try with_reducible rfl)
        try simp only [Act.put, List.setIfInBounds_toArray, List.set_cons_zero, List.set_cons_succ]
        refine wpAnyH_take (i := 12) (oi := ({ dst := some 73, op := Go.Op.move (Go.Operand.tmp 0), type := 29, pos := "hash.go:83", after := #[{ on := 9, ground := Go.Ground.guard }], guard := some (9, true) } : Oper)) (v := ?_) rfl (by kernel_rfl) (by kernel_rfl) (by kernel_rfl) (fun _ _ _ h => h) (Or.inl ⟨by rfl, ?_⟩) (by assumption) ?_
        rotate_left
        · (intro w hSw; (try dsimp only at hSw); go_simp; try with_reducible rfl)
        try simp only [Act.put, List.setIfInBounds_toArray, List.set_cons_zero, List.set_cons_succ]
        refine wpAnyH_ready (rs := [11, 13]) (by kernel_rfl) (by simp) ?_
        refine (AllReadyH.cons (o := ({ dst := some 72, op := Go.Op.call { callee := Go.Callee.value (Go.Operand.func 21), args := #[Go.Operand.const (Go.Value.int Go.IntKind.i64 32), Go.Operand.tmp 71], argTypes := #[3, 22] }, type := 33, pos := "hash.go:83", after := #[{ on := 10, ground := Go.Ground.data }, { on := 9, ground := Go.Ground.chain }, { on := 9, ground := Go.Ground.guard }], guard := some (9, true) } : Oper)) rfl (fun K hK => ?_) (AllReadyH.cons (o := ({ dst := some 74, op := Go.Op.buildSlice 22 1 #[(0, Go.Operand.tmp 73)], type := 22, pos := "hash.go:83", after := #[{ on := 12, ground := Go.Ground.data }, { on := 9, ground := Go.Ground.guard }], guard := some (9, true) } : Oper)) rfl (fun K hK => ?_) AllReadyH.nil))
        · go_simp
          (refine (F21.out _ ?_).mono ?_; (repeat (first | assumption | exact Keep.refl _ _ | exact (Keep.refl [] _).drew | refine Keep.alloc ?_ _ | refine Keep.trans' ?_ (by assumption))); rintro e w' ⟨rfl, hk⟩)
          go_wp2_with fail
          refine hK.out _ _ ?_ (fun hHeld3 => ?_)
          · (try dsimp only); first | exact held2 hS8 ((Keep.refl [] _).drew) | exact held2 (by assumption) hk | exact held2 (by assumption) ((Keep.refl [] _).alloc _)
          clear hK K
          try simp only [Act.put, List.setIfInBounds_toArray, List.set_cons_zero, List.set_cons_succ]
          refine wpAnyH_ready (rs := [13]) (by kernel_rfl) (by simp) ?_
          refine (AllReadyH.cons (o := ({ dst := some 74, op := Go.Op.buildSlice 22 1 #[(0, Go.Operand.tmp 73)], type := 22, pos := "hash.go:83", after := #[{ on := 12, ground := Go.Ground.data }, { on := 9, ground := Go.Ground.guard }], guard := some (9, true) } : Oper)) rfl (fun K hK => ?_) AllReadyH.nil)
          go_simp
          refine hK.out _ _ ?_ (fun hHeld4 => ?_)
          · (try dsimp only); first | exact held2 hS8 ((Keep.refl [] _).drew) | exact held2 (by assumption) hk | exact held2 (by assumption) ((Keep.refl [] _).alloc _)
          clear hK K
          try simp only [Act.put, List.setIfInBounds_toArray, List.set_cons_zero, List.set_cons_succ]
          refine wpAnyH_ready (rs := [14]) (by kernel_rfl) (by simp) ?_
          refine (AllReadyH.cons (o := ({ dst := some 75, op := Go.Op.call { callee := Go.Callee.value (Go.Operand.func 21), args := #[Go.Operand.const (Go.Value.int Go.IntKind.i64 32), Go.Operand.tmp 74], argTypes := #[3, 22] }, type := 33, pos := "hash.go:83", after := #[{ on := 13, ground := Go.Ground.data }, { on := 11, ground := Go.Ground.chain }, { on := 9, ground := Go.Ground.guard }], guard := some (9, true) } : Oper)) rfl (fun K hK => ?_) AllReadyH.nil)
          go_simp
          (refine (F21s.out _ _ ?_).mono ?_; (repeat (first | (refine rowsE1 (hx8.keep (S := []) ?_ (by simp)) _ (by simp); (repeat (first | assumption | exact Keep.refl _ _ | exact (Keep.refl [] _).drew | refine Keep.alloc ?_ _ | refine Keep.trans' ?_ (by assumption)))) | (refine RowsE.keep ?_ ((Keep.refl [] _).alloc _)) | (refine RowsE.keep ?_ (by assumption)))); rintro e w' ⟨rfl, hk⟩)
          go_wp2_with fail
          refine hK.out _ _ ?_ (fun hHeld5 => ?_)
          · (try dsimp only); first | exact held2 hS8 ((Keep.refl [] _).drew) | exact held2 (by assumption) hk | exact held2 (by assumption) ((Keep.refl [] _).alloc _)
          clear hK K
          try simp only [Act.put, List.setIfInBounds_toArray, List.set_cons_zero, List.set_cons_succ]
          refine wpAnyH_take (i := 15) (oi := ({ dst := some 76, op := Go.Op.binOp Go.BinOp.eql 33 (Go.Operand.tmp 72) (Go.Operand.tmp 75) 33, type := 4, pos := "hash.go:83", after := #[{ on := 11, ground := Go.Ground.data }, { on := 14, ground := Go.Ground.data }, { on := 9, ground := Go.Ground.guard }], guard := some (9, true) } : Oper)) (v := ?_) rfl (by kernel_rfl) (by kernel_rfl) (by kernel_rfl) (fun _ _ _ h => h) (Or.inl ⟨by rfl, ?_⟩) (by assumption) ?_
          rotate_left
          · (intro w hSw; (try dsimp only at hSw); go_simp; try with_reducible rfl)
          try simp only [Act.put, List.setIfInBounds_toArray, List.set_cons_zero, List.set_cons_succ]
          refine wpAnyH_take (i := 16) (oi := ({ dst := some 77, op := Go.Op.pick (Go.Operand.tmp 70) (Go.Operand.tmp 76) (Go.Operand.const (Go.Value.bool false)), type := 4, pos := "hash.go:83", after := #[{ on := 9, ground := Go.Ground.data }, { on := 15, ground := Go.Ground.data }], guard := none } : Oper)) (v := ?_) rfl (by kernel_rfl) (by kernel_rfl) (by kernel_rfl) (fun _ _ _ h => h) (Or.inl ⟨by rfl, ?_⟩) (by assumption) ?_
          rotate_left
          · (intro w hSw; (try dsimp only at hSw); go_simp; try with_reducible rfl)
          try simp only [Act.put, List.setIfInBounds_toArray, List.set_cons_zero, List.set_cons_succ]
          refine wpAnyH_take (i := 17) (oi := ({ dst := some 78, op := Go.Op.move (Go.Operand.tmp 77), type := 4, pos := "hash.go:83", after := #[{ on := 16, ground := Go.Ground.data }, { on := 14, ground := Go.Ground.chain }], guard := none } : Oper)) (v := ?_) rfl (by kernel_rfl) (by kernel_rfl) (by kernel_rfl) (fun _ _ _ h => h) (Or.inl ⟨by rfl, ?_⟩) (by assumption) ?_
          rotate_left
          · (intro w hSw; (try dsimp only at hSw); go_simp; try with_reducible rfl)
          try simp only [Act.put, List.setIfInBounds_toArray, List.set_cons_zero, List.set_cons_succ]
          refine wpAnyH_take (i := 18) (oi := ({ dst := some 79, op := Go.Op.load 26 (Go.Operand.tmp 10), type := 26, pos := "hash.go:83", after := #[{ on := 17, ground := Go.Ground.guard }], guard := some (17, true) } : Oper)) (v := .agg (List.toArray (bs D))) rfl (by kernel_rfl) (by kernel_rfl) (by kernel_rfl) (fun _ _ _ h => h) (yieldsIf_load_mid (by rfl) _ _ rfl _ _ rfl (bs D) _ (fun w hSw => hSw.1) hu rfl hi1) (by assumption) ?_
          try simp only [Act.put, List.setIfInBounds_toArray, List.set_cons_zero, List.set_cons_succ]
          refine wpAnyH_take (i := 19) (oi := ({ dst := some 80, op := Go.Op.move (Go.Operand.tmp 0), type := 29, pos := "hash.go:83", after := #[{ on := 17, ground := Go.Ground.guard }], guard := some (17, true) } : Oper)) (v := ?_) rfl (by kernel_rfl) (by kernel_rfl) (by kernel_rfl) (fun _ _ _ h => h) (Or.inl ⟨by rfl, ?_⟩) (by assumption) ?_
          rotate_left
          · (intro w hSw; (try dsimp only at hSw); go_simp; try with_reducible rfl)
          try simp only [Act.put, List.setIfInBounds_toArray, List.set_cons_zero, List.set_cons_succ]
          refine wpAnyH_ready (rs := [20]) (by kernel_rfl) (by simp) ?_
          refine (AllReadyH.cons (o := ({ dst := some 81, op := Go.Op.call { callee := Go.Callee.value (Go.Operand.func 16), args := #[Go.Operand.tmp 80], argTypes := #[29] }, type := 26, pos := "hash.go:83", after := #[{ on := 19, ground := Go.Ground.data }, { on := 17, ground := Go.Ground.chain }, { on := 17, ground := Go.Ground.guard }], guard := some (17, true) } : Oper)) rfl (fun K hK => ?_) AllReadyH.nil)
          go_simp
          (refine (F16.out _ ?_).mono ?_; (repeat (first | assumption | exact Keep.refl _ _ | exact (Keep.refl [] _).drew | refine Keep.alloc ?_ _ | refine Keep.trans' ?_ (by assumption))); rintro e w' ⟨rfl, hk⟩)
          go_wp2_with fail
          refine hK.out _ _ ?_ (fun hHeld6 => ?_)
          · (try dsimp only); first | exact held2 hS8 ((Keep.refl [] _).drew) | exact held2 (by assumption) hk | exact held2 (by assumption) ((Keep.refl [] _).alloc _)
          clear hK K
          try simp only [Act.put, List.setIfInBounds_toArray, List.set_cons_zero, List.set_cons_succ]
          refine wpAnyH_take (i := 21) (oi := ({ dst := some 82, op := Go.Op.binOp Go.BinOp.eql 26 (Go.Operand.tmp 79) (Go.Operand.tmp 81) 26, type := 4, pos := "hash.go:83", after := #[{ on := 18, ground := Go.Ground.data }, { on := 20, ground := Go.Ground.data }, { on := 17, ground := Go.Ground.guard }], guard := some (17, true) } : Oper)) (v := ?_) rfl (by kernel_rfl) (by kernel_rfl) (by kernel_rfl) (fun _ _ _ h => h) (Or.inl ⟨by rfl, ?_⟩) (by assumption) ?_
          rotate_left
          · (intro w hSw; (try dsimp only at hSw); go_simp; try with_reducible rfl)
          try simp only [Act.put, List.setIfInBounds_toArray, List.set_cons_zero, List.set_cons_succ]
          refine wpAnyH_take (i := 22) (oi := ({ dst := some 83, op := Go.Op.pick (Go.Operand.tmp 78) (Go.Operand.tmp 82) (Go.Operand.const (Go.Value.bool false)), type := 4, pos := "hash.go:83", after := #[{ on := 17, ground := Go.Ground.data }, { on := 21, ground := Go.Ground.data }], guard := none } : Oper)) (v := ?_) rfl (by kernel_rfl) (by kernel_rfl) (by kernel_rfl) (fun _ _ _ h => h) (Or.inl ⟨by rfl, ?_⟩) (by assumption) ?_
          rotate_left
          · (intro w hSw; (try dsimp only at hSw); go_simp; try with_reducible rfl)
          try simp only [Act.put, List.setIfInBounds_toArray, List.set_cons_zero, List.set_cons_succ]
          refine wpAnyH_take (i := 23) (oi := ({ dst := some 4, op := Go.Op.assign (Go.Operand.tmp 83), type := 4, pos := "hash.go:83", after := #[{ on := 22, ground := Go.Ground.data }, { on := 20, ground := Go.Ground.chain }, { on := 0, ground := Go.Ground.phase }, { on := 1, ground := Go.Ground.phase }, { on := 2, ground := Go.Ground.phase }, { on := 3, ground := Go.Ground.phase }, { on := 4, ground := Go.Ground.phase }, { on := 5, ground := Go.Ground.phase }, { on := 6, ground := Go.Ground.phase }, { on := 7, ground := Go.Ground.phase }, { on := 8, ground := Go.Ground.phase }, { on := 9, ground := Go.Ground.phase }, { on := 10, ground := Go.Ground.phase }, { on := 11, ground := Go.Ground.phase }, { on := 12, ground := Go.Ground.phase }, { on := 13, ground := Go.Ground.phase }, { on := 14, ground := Go.Ground.phase }, { on := 15, ground := Go.Ground.phase }, { on := 16, ground := Go.Ground.phase }, { on := 17, ground := Go.Ground.phase }, { on := 18, ground := Go.Ground.phase }, { on := 19, ground := Go.Ground.phase }, { on := 20, ground := Go.Ground.phase }, { on := 21, ground := Go.Ground.phase }, { on := 22, ground := Go.Ground.phase }], guard := none } : Oper)) (v := ?_) rfl (by kernel_rfl) (by kernel_rfl) (by kernel_rfl) (fun _ _ _ h => h) (Or.inl ⟨by rfl, ?_⟩) (by assumption) ?_
          rotate_left
          · (intro w hSw; (try dsimp only at hSw); go_simp; try with_reducible rfl)
          try simp only [Act.put, List.setIfInBounds_toArray, List.set_cons_zero, List.set_cons_succ]
          refine wpAnyH_done (by kernel_rfl) ?_ _
          refine NoPanic.normal ?_
          go_wp2_with fail; go_returns; exact ⟨rfl, k8.trans' (held2k (b := P) (g := P) (cs := bs D) (ds := bs D) (by assumption))⟩
        · go_simp
          refine hK.out _ _ ?_ (fun hHeld6 => ?_)
          · (try dsimp only); first | exact held2 hS8 ((Keep.refl [] _).drew) | exact held2 (by assumption) hk | exact held2 (by assumption) ((Keep.refl [] _).alloc _)
          clear hK K
          try simp only [Act.put, List.setIfInBounds_toArray, List.set_cons_zero, List.set_cons_succ]
          refine wpAnyH_ready (rs := [11]) (by kernel_rfl) (by simp) ?_
          refine (AllReadyH.cons (o := ({ dst := some 72, op := Go.Op.call { callee := Go.Callee.value (Go.Operand.func 21), args := #[Go.Operand.const (Go.Value.int Go.IntKind.i64 32), Go.Operand.tmp 71], argTypes := #[3, 22] }, type := 33, pos := "hash.go:83", after := #[{ on := 10, ground := Go.Ground.data }, { on := 9, ground := Go.Ground.chain }, { on := 9, ground := Go.Ground.guard }], guard := some (9, true) } : Oper)) rfl (fun K hK => ?_) AllReadyH.nil)
          go_simp
          (refine (F21.out _ ?_).mono ?_; (repeat (first | assumption | exact Keep.refl _ _ | exact (Keep.refl [] _).drew | refine Keep.alloc ?_ _ | refine Keep.trans' ?_ (by assumption))); rintro e w' ⟨rfl, hk⟩)
          go_wp2_with fail
          refine hK.out _ _ ?_ (fun hHeld7 => ?_)
          · (try dsimp only); first | exact held2 hS8 ((Keep.refl [] _).drew) | exact held2 (by assumption) hk | exact held2 (by assumption) ((Keep.refl [] _).alloc _)
          clear hK K
          try simp only [Act.put, List.setIfInBounds_toArray, List.set_cons_zero, List.set_cons_succ]
          refine wpAnyH_ready (rs := [14]) (by kernel_rfl) (by simp) ?_
          refine (AllReadyH.cons (o := ({ dst := some 75, op := Go.Op.call { callee := Go.Callee.value (Go.Operand.func 21), args := #[Go.Operand.const (Go.Value.int Go.IntKind.i64 32), Go.Operand.tmp 74], argTypes := #[3, 22] }, type := 33, pos := "hash.go:83", after := #[{ on := 13, ground := Go.Ground.data }, { on := 11, ground := Go.Ground.chain }, { on := 9, ground := Go.Ground.guard }], guard := some (9, true) } : Oper)) rfl (fun K hK => ?_) AllReadyH.nil)
          go_simp
          (refine (F21s.out _ _ ?_).mono ?_; (repeat (first | (refine rowsE1 (hx8.keep (S := []) ?_ (by simp)) _ (by simp); (repeat (first | assumption | exact Keep.refl _ _ | exact (Keep.refl [] _).drew | refine Keep.alloc ?_ _ | refine Keep.trans' ?_ (by assumption)))) | (refine RowsE.keep ?_ ((Keep.refl [] _).alloc _)) | (refine RowsE.keep ?_ (by assumption)))); rintro e w' ⟨rfl, hk⟩)
          go_wp2_with fail
          refine hK.out _ _ ?_ (fun hHeld8 => ?_)
          · (try dsimp only); first | exact held2 hS8 ((Keep.refl [] _).drew) | exact held2 (by assumption) hk | exact held2 (by assumption) ((Keep.refl [] _).alloc _)
          clear hK K
          try simp only [Act.put, List.setIfInBounds_toArray, List.set_cons_zero, List.set_cons_succ]
          refine wpAnyH_take (i := 15) (oi := ({ dst := some 76, op := Go.Op.binOp Go.BinOp.eql 33 (Go.Operand.tmp 72) (Go.Operand.tmp 75) 33, type := 4, pos := "hash.go:83", after := #[{ on := 11, ground := Go.Ground.data }, { on := 14, ground := Go.Ground.data }, { on := 9, ground := Go.Ground.guard }], guard := some (9, true) } : Oper)) (v := ?_) rfl (by kernel_rfl) (by kernel_rfl) (by kernel_rfl) (fun _ _ _ h => h) (Or.inl ⟨by rfl, ?_⟩) (by assumption) ?_
          rotate_left
          · (intro w hSw; (try dsimp only at hSw); go_simp; try with_reducible rfl)
          try simp only [Act.put, List.setIfInBounds_toArray, List.set_cons_zero, List.set_cons_succ]
          refine wpAnyH_take (i := 16) (oi := ({ dst := some 77, op := Go.Op.pick (Go.Operand.tmp 70) (Go.Operand.tmp 76) (Go.Operand.const (Go.Value.bool false)), type := 4, pos := "hash.go:83", after := #[{ on := 9, ground := Go.Ground.data }, { on := 15, ground := Go.Ground.data }], guard := none } : Oper)) (v := ?_) rfl (by kernel_rfl) (by kernel_rfl) (by kernel_rfl) (fun _ _ _ h => h) (Or.inl ⟨by rfl, ?_⟩) (by assumption) ?_
          rotate_left
          · (intro w hSw; (try dsimp only at hSw); go_simp; try with_reducible rfl)
          try simp only [Act.put, List.setIfInBounds_toArray, List.set_cons_zero, List.set_cons_succ]
          refine wpAnyH_take (i := 17) (oi := ({ dst := some 78, op := Go.Op.move (Go.Operand.tmp 77), type := 4, pos := "hash.go:83", after := #[{ on := 16, ground := Go.Ground.data }, { on := 14, ground := Go.Ground.chain }], guard := none } : Oper)) (v := ?_) rfl (by kernel_rfl) (by kernel_rfl) (by kernel_rfl) (fun _ _ _ h => h) (Or.inl ⟨by rfl, ?_⟩) (by assumption) ?_
          rotate_left
          · (intro w hSw; (try dsimp only at hSw); go_simp; try with_reducible rfl)
          try simp only [Act.put, List.setIfInBounds_toArray, List.set_cons_zero, List.set_cons_succ]
          refine wpAnyH_take (i := 18) (oi := ({ dst := some 79, op := Go.Op.load 26 (Go.Operand.tmp 10), type := 26, pos := "hash.go:83", after := #[{ on := 17, ground := Go.Ground.guard }], guard := some (17, true) } : Oper)) (v := .agg (List.toArray (bs D))) rfl (by kernel_rfl) (by kernel_rfl) (by kernel_rfl) (fun _ _ _ h => h) (yieldsIf_load_mid (by rfl) _ _ rfl _ _ rfl (bs D) _ (fun w hSw => hSw.1) hu rfl hi1) (by assumption) ?_
          try simp only [Act.put, List.setIfInBounds_toArray, List.set_cons_zero, List.set_cons_succ]
          refine wpAnyH_take (i := 19) (oi := ({ dst := some 80, op := Go.Op.move (Go.Operand.tmp 0), type := 29, pos := "hash.go:83", after := #[{ on := 17, ground := Go.Ground.guard }], guard := some (17, true) } : Oper)) (v := ?_) rfl (by kernel_rfl) (by kernel_rfl) (by kernel_rfl) (fun _ _ _ h => h) (Or.inl ⟨by rfl, ?_⟩) (by assumption) ?_
          rotate_left
          · (intro w hSw; (try dsimp only at hSw); go_simp; try with_reducible rfl)
          try simp only [Act.put, List.setIfInBounds_toArray, List.set_cons_zero, List.set_cons_succ]
          refine wpAnyH_ready (rs := [20]) (by kernel_rfl) (by simp) ?_
          refine (AllReadyH.cons (o := ({ dst := some 81, op := Go.Op.call { callee := Go.Callee.value (Go.Operand.func 16), args := #[Go.Operand.tmp 80], argTypes := #[29] }, type := 26, pos := "hash.go:83", after := #[{ on := 19, ground := Go.Ground.data }, { on := 17, ground := Go.Ground.chain }, { on := 17, ground := Go.Ground.guard }], guard := some (17, true) } : Oper)) rfl (fun K hK => ?_) AllReadyH.nil)
          go_simp
          (refine (F16.out _ ?_).mono ?_; (repeat (first | assumption | exact Keep.refl _ _ | exact (Keep.refl [] _).drew | refine Keep.alloc ?_ _ | refine Keep.trans' ?_ (by assumption))); rintro e w' ⟨rfl, hk⟩)
          go_wp2_with fail
          refine hK.out _ _ ?_ (fun hHeld9 => ?_)
          · (try dsimp only); first | exact held2 hS8 ((Keep.refl [] _).drew) | exact held2 (by assumption) hk | exact held2 (by assumption) ((Keep.refl [] _).alloc _)
          clear hK K
          try simp only [Act.put, List.setIfInBounds_toArray, List.set_cons_zero, List.set_cons_succ]
          refine wpAnyH_take (i := 21) (oi := ({ dst := some 82, op := Go.Op.binOp Go.BinOp.eql 26 (Go.Operand.tmp 79) (Go.Operand.tmp 81) 26, type := 4, pos := "hash.go:83", after := #[{ on := 18, ground := Go.Ground.data }, { on := 20, ground := Go.Ground.data }, { on := 17, ground := Go.Ground.guard }], guard := some (17, true) } : Oper)) (v := ?_) rfl (by kernel_rfl) (by kernel_rfl) (by kernel_rfl) (fun _ _ _ h => h) (Or.inl ⟨by rfl, ?_⟩) (by assumption) ?_
          rotate_left
          · (intro w hSw; (try dsimp only at hSw); go_simp; try with_reducible rfl)
          try simp only [Act.put, List.setIfInBounds_toArray, List.set_cons_zero, List.set_cons_succ]
          refine wpAnyH_take (i := 22) (oi := ({ dst := some 83, op := Go.Op.pick (Go.Operand.tmp 78) (Go.Operand.tmp 82) (Go.Operand.const (Go.Value.bool false)), type := 4, pos := "hash.go:83", after := #[{ on := 17, ground := Go.Ground.data }, { on := 21, ground := Go.Ground.data }], guard := none } : Oper)) (v := ?_) rfl (by kernel_rfl) (by kernel_rfl) (by kernel_rfl) (fun _ _ _ h => h) (Or.inl ⟨by rfl, ?_⟩) (by assumption) ?_
          rotate_left
          · (intro w hSw; (try dsimp only at hSw); go_simp; try with_reducible rfl)
          try simp only [Act.put, List.setIfInBounds_toArray, List.set_cons_zero, List.set_cons_succ]
          refine wpAnyH_take (i := 23) (oi := ({ dst := some 4, op := Go.Op.assign (Go.Operand.tmp 83), type := 4, pos := "hash.go:83", after := #[{ on := 22, ground := Go.Ground.data }, { on := 20, ground := Go.Ground.chain }, { on := 0, ground := Go.Ground.phase }, { on := 1, ground := Go.Ground.phase }, { on := 2, ground := Go.Ground.phase }, { on := 3, ground := Go.Ground.phase }, { on := 4, ground := Go.Ground.phase }, { on := 5, ground := Go.Ground.phase }, { on := 6, ground := Go.Ground.phase }, { on := 7, ground := Go.Ground.phase }, { on := 8, ground := Go.Ground.phase }, { on := 9, ground := Go.Ground.phase }, { on := 10, ground := Go.Ground.phase }, { on := 11, ground := Go.Ground.phase }, { on := 12, ground := Go.Ground.phase }, { on := 13, ground := Go.Ground.phase }, { on := 14, ground := Go.Ground.phase }, { on := 15, ground := Go.Ground.phase }, { on := 16, ground := Go.Ground.phase }, { on := 17, ground := Go.Ground.phase }, { on := 18, ground := Go.Ground.phase }, { on := 19, ground := Go.Ground.phase }, { on := 20, ground := Go.Ground.phase }, { on := 21, ground := Go.Ground.phase }, { on := 22, ground := Go.Ground.phase }], guard := none } : Oper)) (v := ?_) rfl (by kernel_rfl) (by kernel_rfl) (by kernel_rfl) (fun _ _ _ h => h) (Or.inl ⟨by rfl, ?_⟩) (by assumption) ?_
          rotate_left
          · (intro w hSw; (try dsimp only at hSw); go_simp; try with_reducible rfl)
          try simp only [Act.put, List.setIfInBounds_toArray, List.set_cons_zero, List.set_cons_succ]
          refine wpAnyH_done (by kernel_rfl) ?_ _
          refine NoPanic.normal ?_
          go_wp2_with fail; go_returns; exact ⟨rfl, k8.trans' (held2k (b := P) (g := P) (cs := bs D) (ds := bs D) (by assumption))⟩
end Go.Proofs.Ytlpinbkgbnbkhaa

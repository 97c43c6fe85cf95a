/- The desk; rows compared. -/
import Derived.Test.YtkhplfgehcljmaaH
set_option linter.unusedVariables false
set_option linter.unusedSimpArgs false
namespace Go.Proofs.Ytkhplfgehcljmaa
open Go.RowKit

theorem size5 : (Try.prog.info? 5).map (·.size) = some 1 := by kernel_rfl

/-- The desk at block d holds a row of n bytes at block g (g = d: none as yet). -/
structure DeskAt (w : World) (d g n : Nat) (c : List Value) : Prop where
  len : c.length = n
  lt : d < w.heap.size
  at_ : (Blk w d #[.slice none 0 0] 26 ∧ n = 0 ∧ g = d) ∨ (g ≠ d ∧ Blk w d #[.slice (some ⟨g, 0, none⟩) n n] 26 ∧ Blk w g c.toArray 5)

/-- The desk's row after 'lay'. -/
def laid (xs : List UInt8) (n : Nat) : List Value := bs xs ++ List.replicate (n - xs.length) (.int .u8 171)

structure FillInv (w : World) (d g n g0 : Nat) (k : Nat) (wr : World) : Prop where
  keep : Keep [d, g0] w wr
  desk : Blk wr d #[.slice (some ⟨g, 0, none⟩) n n] 26
  row : ∃ c : List Value, c.length = n ∧ c.take k = List.replicate k (.int .u8 171) ∧ Blk wr g c.toArray 5
  ne : g ≠ d
  new : g = g0 ∨ w.heap.size ≤ g

theorem take_set {c : List Value} {k : Nat} {v : Value} (hk : k < c.length) (h : c.take k = List.replicate k v) : (c.set k v).take (k + 1) = List.replicate (k + 1) v := by
  rw [List.take_succ_eq_append_getElem (by simpa using hk), List.take_set_of_le (by omega), h]
  simp [List.replicate_succ']

theorem FillInv.step {w wr : World} {d g n g0 k : Nat} (h : FillInv w d g n g0 k wr) (hk : k < n) : FillInv w d g n g0 (k + 1) (wr.setCell ⟨g, k, none⟩ (.int .u8 171)) := by
  obtain ⟨c, hc, ht, hb⟩ := h.row
  refine ⟨h.keep.set (by rcases h.new with e | e <;> simp [e]) _, h.desk.setOther (fun e => h.ne e.symm) _, ⟨c.set k (.int .u8 171), by simpa using hc, take_set (by omega) ht, by simpa using hb.set k (.int .u8 171)⟩, h.ne, h.new⟩

set_option maxHeartbeats 800000 in
theorem lay_any (d g n : Nat) (c : List Value) (a : Option Addr) (cap : Nat) (xs : List UInt8) (w : World) (hlen : xs.length ≤ 140737488351232) (hn : n ≤ 9223372036854775807) (hd : DeskAt w d g n c) (hr : Rd w a (bs xs)) (had : xs ≠ [] → ablk a ≠ d ∧ ablk a ≠ g) :
    Calls Try.prog 15 #[.pointer (some ⟨d, 0, none⟩), .slice a xs.length cap] w fun e w' => ∃ g' n', e = .returned (.slice (some ⟨g', 0, none⟩) xs.length n') ∧ DeskAt w' d g' n' (laid xs n') ∧ xs.length + 5 ≤ n' ∧ n' ≤ 9223372036854775807 ∧ Keep [d, g] w w' ∧ (g' = g ∨ w.heap.size ≤ g') ∧ g' ≠ d := by
  have hl := hd.len
  have hmk : ∀ w, (Instr.makeSlice 23 (.int .i64 (2 * (xs.length : Int) + 40)) (.int .i64 (2 * (xs.length : Int) + 40))).run Try.prog w = .ok (.slice (some ⟨w.heap.size, 0, none⟩) (2 * xs.length + 40) (2 * xs.length + 40)) (w.alloc (.cells (madeCells #[.int .u8 0] (2 * xs.length + 40)) 5)) := by
    intro w
    have h := run_make_row' (P := Try.prog) 23 5 (.int .u8 0) 1 Try.underlying23 info5 rfl .i64 .i64 (2 * xs.length + 40) (by omega) (by omega) w
    simpa using h
  have HM := Lib.hid hmk
  clear hmk
  obtain ⟨a0, hb0, ha0⟩ : ∃ a0, Blk w d #[.slice a0 n n] 26 ∧ (n ≠ 0 → a0 = some ⟨g, 0, none⟩ ∧ g ≠ d ∧ Blk w g c.toArray 5) := by
    rcases hd.at_ with ⟨h1, h2, h3⟩ | ⟨h1, h2, h3⟩
    · exact ⟨none, by rw [h2]; exact h1, fun h => absurd h2 h⟩
    · exact ⟨_, h2, fun _ => ⟨rfl, h1, h3⟩⟩
  have c0 := hb0.cell (i := 0) rfl
  have f0 := hb0.free (i := 0)
  have hdlt := hd.lt
  have HL := Lib.hid hl
  clear hl
  go_enter Try.func15, Try.ntmps15
  go_upto_if 14 with fail
  go_cut [] (fun wc => ∃ g' n', FillInv w d g' n' g 0 wc ∧ xs.length + 5 ≤ n' ∧ n' ≤ 9223372036854775807)
  case first =>
    have hmk := HM.out
    by_cases hlt : n < xs.length + 5
    · go_wp2
      go_meet
      case rel =>
        have hsz : d ≠ w.heap.size := by omega
        refine ⟨w.heap.size, 2 * xs.length + 40, ⟨?_, ?_, ?_, by omega, Or.inr (by omega)⟩, by omega, by omega⟩
        · exact ((Keep.refl _ _).set (by simp) _).alloc _
        · have := (hb0.set 0 (.slice (some ⟨w.heap.size, 0, none⟩) (2 * xs.length + 40) (2 * xs.length + 40))).alloc (Obj.cells (madeCells #[.int .u8 0] (2 * xs.length + 40)) 5)
          simpa using this
        · refine ⟨(madeCells #[.int .u8 0] (2 * xs.length + 40)).toList, by simp [size_madeCells], by simp, ?_⟩
          have := Blk.new' (b := w.heap.size) (w.setCell ⟨d, 0, none⟩ (.slice (some ⟨w.heap.size, 0, none⟩) (2 * xs.length + 40) (2 * xs.length + 40))) (madeCells #[.int .u8 0] (2 * xs.length + 40)) 5 (by simp)
          simpa using this
    · obtain ⟨rfl, hgd, hbg⟩ := ha0 (by omega)
      have HB := Lib.hid hgd
      clear hgd
      go_wp2
      go_meet
      case rel => exact ⟨g, n, ⟨Keep.refl _ _, hb0, ⟨c, HL.out, by simp, hbg⟩, HB.out, Or.inl rfl⟩, by omega, by omega⟩
  case rest =>
    obtain ⟨g', n', hinv, hn5, hn6⟩ := hcut
    clear c0 f0 HM
    go_wp2
    go_loopw [5] (fun i wr => ∃ k : Nat, k ≤ n' ∧ i = .int .i64 k ∧ FillInv w d g' n' g k wr) (fun i _ => n' - (intOf i).toNat)
    case atStart => exact ⟨0, by omega, rfl, hinv⟩
    case round =>
      obtain ⟨k, hk, rfl, hi⟩ := hrel
      clear hinv
      have c0 := hi.desk.cell (i := 0) rfl
      have f0 := hi.desk.free (i := 0)
      by_cases hlt : k < n'
      · obtain ⟨cc, hc1, hc2, hc3⟩ := hi.row
        obtain ⟨v1, c1⟩ : ∃ v1, wr.cell? ⟨g', k, none⟩ = some v1 := ⟨cc[k], hc3.cell (by simp [hc1, hlt])⟩
        have f1 := hc3.free (i := k)
        have HC := Lib.hid hc1
        have HC2 := Lib.hid hc2
        clear hc1 hc2
        go_wp2
        exact ⟨⟨k + 1, by omega, by go_num, hi.step hlt⟩, by simp [intOf]; omega⟩
      · obtain ⟨cc, hc1, hc2, hc3⟩ := hi.row
        have hrr : Rd wr a (bs xs) := hr.keep hi.keep (by intro h; have := had (by rintro rfl; simp at h); simp [this])
        have HC := Lib.hid hc1
        have HC2 := Lib.hid hc2
        clear hc1 hc2
        have hdg : Hid (d ∉ [g']) := by show ¬ _; simp; exact fun e => hi.ne e.symm
        have C1 : Hid ((bs xs).length = Nat.min xs.length n') := by show _ = _; rw [bs_length]; exact (Nat.min_eq_left (by omega)).symm
        have C2 : Hid (0 + (bs xs).length ≤ cc.length) := by show _ ≤ _; rw [bs_length, HC.out]; omega
        have C3 : Hid (∀ v ∈ bs xs, v.oneCell' = true) := by show ∀ _, _; simp [bs, Value.oneCell']
        go_wp2_with (refine wpList_copyB rfl (.tmp 41) (.tmp 42) 23 23 rfl 5 Try.underlying23 size5 (some ⟨g', 0, none⟩) a n' n' xs.length cap rfl rfl g' 0 cc 5 hc3 (bs xs) C1.out (fun _ => rfl) hrr C2.out C3.out ?_; intro w1 hb1 hk1 hs1; have c2 := (hi.desk.keep hk1 hdg.out).cell (i := 0) rfl)
        go_ret
        refine ⟨g', n', rfl, ⟨?_, ?_, Or.inr ⟨hi.ne, hi.desk.keep hk1 (by simp; exact fun e => hi.ne e.symm), ?_⟩⟩, hn5, hn6, hi.keep.trans hk1 ?_, hi.new, hi.ne⟩
        · simp [laid]; omega
        · have := hi.keep.size; omega
        · have hb2 := hb1.out
          have e : (cc.take 0 ++ (bs xs ++ cc.drop (0 + (bs xs).length))) = laid xs n' := by
            have hk' : k = n' := by omega
            have h5 := HC2.out
            rw [hk', List.take_of_length_le (by rw [HC.out]; omega)] at h5
            simp only [laid, List.take_zero, List.nil_append, Nat.zero_add, bs_length, h5, List.drop_replicate]
          rwa [e] at hb2
        · intro b hb
          have := hi.new
          simp only [List.mem_singleton] at hb
          subst hb
          rcases this with rfl | h
          · simp
          · exact Or.inr h

theorem laid_lo (xs : List UInt8) (n k : Nat) (h : k < xs.length) : (laid xs n)[k]? = some (B8 xs[k]) := by
  simp [laid, List.getElem?_append_left, h]
theorem laid_hi (xs : List UInt8) (n k : Nat) (h : xs.length ≤ k) (hn : k < n) : (laid xs n)[k]? = some (.int .u8 171) := by
  rw [laid, List.getElem?_append_right (by simpa using h), List.getElem?_replicate, if_pos (by simp; omega)]


theorem num'_any (e : Int) (w : World) : Calls Try.prog 26 #[.int .i64 e] w fun r w' => r = .returned (.int .i64 e) ∧ w' = w := by
  go_enter Try.func26, Try.ntmps26
  go_wp2
  go_ret
  exact ⟨rfl, rfl⟩

set_option maxHeartbeats 800000 in
theorem bytes_any (a a' : Option Addr) (n n' c c' : Nat) (xs ys : List UInt8) (w : World) (hl : xs.length = n) (hl' : ys.length = n') (hn : n ≤ 140737488355328) (hr : Rd w a (bs xs)) (hr' : Rd w a' (bs ys)) :
    Calls Try.prog 35 #[.slice a n c, .slice a' n' c'] w fun e w' => e = .returned (.bool (xs == ys)) ∧ ∃ m, w' = w.drewN m := by
  by_cases hlen : n = n'
  · subst hlen
    have HL := Lib.hid hl
    have HL' := Lib.hid hl'
    clear hl hl'
    go_enter Try.func35, Try.ntmps35
    go_wp2_with fail
    go_loopw [5] (fun i wr => ∃ k m : Nat, k ≤ n ∧ i = .int .i64 k ∧ wr = w.drewN m ∧ Hid (xs.take k = ys.take k)) (fun i _ => n - (intOf i).toNat)
    case atStart => exact ⟨0, 0, by omega, rfl, rfl, Lib.hid rfl⟩
    case round =>
      obtain ⟨k, m, hk, rfl, rfl, HT⟩ := hrel
      by_cases hlt : k < n
      · obtain ⟨b, off, rfl, hcell⟩ := hr.byte (k := k) (by have := HL.out; omega)
        obtain ⟨b', off', rfl, hcell'⟩ := hr'.byte (k := k) (by have := HL'.out; omega)
        obtain ⟨x, hx⟩ : ∃ x, xs[k]? = some x := ⟨_, List.getElem?_eq_getElem (by have := HL.out; omega)⟩
        obtain ⟨y, hy⟩ : ∃ x, ys[k]? = some x := ⟨_, List.getElem?_eq_getElem (by have := HL'.out; omega)⟩
        have e1 : xs[k]'(by have := HL.out; omega) = x := by
          rw [List.getElem?_eq_getElem (by have := HL.out; omega)] at hx; exact Option.some.inj hx
        have e2 : ys[k]'(by have := HL'.out; omega) = y := by
          rw [List.getElem?_eq_getElem (by have := HL'.out; omega)] at hy; exact Option.some.inj hy
        rw [e1] at hcell
        rw [e2] at hcell'
        have HX := Lib.hid hx
        have HY := Lib.hid hy
        have i1 : (k : Int) < n := by omega
        clear hx hy e1 e2 hr hr' hlt
        by_cases he : x = y
        · subst he
          go_wp2_with fail
          go_quiet (fail)
          go_wp2_with fail
          refine ⟨⟨k + 1, m + nq, by omega, by go_num, rfl, Lib.hid ?_⟩, by simp [intOf]; omega⟩
          rw [List.take_add_one, List.take_add_one, HX.out, HY.out, HT.out]
        · have hne : (((x.toNat : Nat) : Int) == ((y.toNat : Nat) : Int)) = false := by
            simp only [beq_eq_false_iff_ne, ne_eq]
            intro h; exact he (UInt8.toNat_inj.1 (by omega))
          have hne2 : (((x.toNat : Nat) : Int) != ((y.toNat : Nat) : Int)) = true := by simpa using hne
          have HE := Lib.hid he
          clear he
          go_wp2_with fail
          go_quiet (fail)
          go_wp2_with fail
          go_returns
          have hb : (xs == ys) = false := by
            rw [beq_eq_false_iff_ne]; rintro rfl
            have h1 := HX.out; rw [HY.out] at h1; exact HE.out (Option.some.inj h1).symm
          exact ⟨by rw [hb]; rfl, m + nq, World.drewN_drewN ..⟩
      · go_wp2_with fail
        go_returns
        have hb : (xs == ys) = true := by
          have h1 := HT.out
          rw [List.take_of_length_le (by have := HL.out; omega), List.take_of_length_le (by have := HL'.out; omega)] at h1
          rw [h1]; simp
        exact ⟨by rw [hb]; rfl, m, rfl⟩
  · have hb : (xs == ys) = false := by
      rw [beq_eq_false_iff_ne]; rintro rfl; omega
    have t1 : ((n : Int) == n') = false := by simp; omega
    have t2 : ((n : Int) != n') = true := by simp; omega
    have HB := Lib.hid hb
    clear hb hl hl' hlen
    go_enter Try.func35, Try.ntmps35
    go_wp2_with fail
    go_returns
    exact ⟨by rw [HB.out]; rfl, 0, rfl⟩

set_option maxHeartbeats 800000 in
theorem lies_any (d g n : Nat) (a : Option Addr) (cap : Nat) (xs : List UInt8) (w : World) (hn : n ≤ 9223372036854775807) (hx : xs.length ≤ n) (hx2 : xs.length ≤ 140737488355328) (hd : DeskAt w d g n (laid xs n)) (hr : Rd w a (bs xs)) :
    Calls Try.prog 17 #[.pointer (some ⟨d, 0, none⟩), .slice a xs.length cap] w fun e w' => e = .returned (.bool true) ∧ ∃ m, w' = w.drewN m := by
  obtain ⟨a0, hb0, ha0, hrd0⟩ : ∃ a0, Blk w d #[.slice a0 n n] 26 ∧ (n ≠ 0 → a0 = some ⟨g, 0, none⟩ ∧ Blk w g (laid xs n).toArray 5) ∧ Rd w a0 (bs xs) := by
    rcases hd.at_ with ⟨h1, h2, h3⟩ | ⟨h1, h2, h3⟩
    · exact ⟨none, by rw [h2]; exact h1, fun h => absurd h2 h, Or.inl (by rw [List.eq_nil_of_length_eq_zero (show xs.length = 0 by omega)]; rfl)⟩
    · refine ⟨_, h2, fun _ => ⟨rfl, h3⟩, Rd.of_blk h3 0 (fun k v hv => ?_)⟩
      rw [Nat.zero_add, laid, List.getElem?_append_left (List.getElem?_eq_some_iff.1 hv).1]; exact hv
  have c0 := hb0.cell (i := 0) rfl
  have hb := bytes_any a0 a xs.length xs.length n cap xs xs w rfl rfl hx2 hrd0 hr
  rw [beq_self_eq_true] at hb
  go_enter Try.func17, Try.ntmps17
  go_wp2_with fail
  go_loop [5] (fun i => ∃ k : Nat, k ≤ n ∧ xs.length ≤ k ∧ i = .int .i64 k) (fun i => n - (intOf i).toNat)
  case atStart => exact ⟨xs.length, by omega, by omega, rfl⟩
  case round =>
    obtain ⟨k, hk, hk2, rfl⟩ := hrel
    by_cases hlt : k < n
    · obtain ⟨rfl, hbg⟩ := ha0 (by omega)
      have c1 := hbg.cell (i := k) (by simpa using laid_hi xs n k hk2 hlt)
      clear ha0 hb
      go_wp2_with fail
      exact ⟨⟨k + 1, by omega, by omega, by go_num⟩, by simp [intOf]; omega⟩
    · go_wp2_with (first | (go_at_call 35; refine hb.mono ?_; rintro e w1 ⟨rfl, m, rfl⟩) | fail)
      go_returns
      exact ⟨rfl, m, rfl⟩
end Go.Proofs.Ytkhplfgehcljmaa

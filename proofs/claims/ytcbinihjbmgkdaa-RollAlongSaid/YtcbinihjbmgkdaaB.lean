/- The walks of Desk.lay and Desk.lies. -/
import Derived.Test.YtcbinihjbmgkdaaRows
import Derived.Test.YtcbinihjbmgkdaaLib
namespace Go.Proofs.Ytcbinihjbmgkdaa
open Go.RowKit

theorem Try.info5 : (Try.prog.info? 5).map (fun i => (i.zero, i.size, i.bytes)) = some (some (.int .u8 0), 1, 1) := by kernel_rfl
theorem Try.size5 : (Try.prog.info? 5).map (·.size) = some 1 := by kernel_rfl

/-- The desk at block d holds a row of n bytes at block g (g = d: none as yet). -/
structure DeskAt (w : World) (d g n : Nat) (c : List Value) : Prop where
  len : c.length = n
  lt : d < w.heap.size
  at_ : (Blk w d #[.slice none 0 0] 26 ∧ n = 0 ∧ g = d) ∨ (g ≠ d ∧ Blk w d #[.slice (some ⟨g, 0, none⟩) n n] 26 ∧ Blk w g c.toArray 5)

/-- The desk's row after 'lay'. -/
def laid (xs : List UInt8) (n : Nat) : List Value := bs xs ++ List.replicate (n - xs.length) (.int .u8 171)

structure FillInv (w : World) (d g n g0 : Nat) (k : Nat) (wr : World) : Prop where
  keep : Keep [d, g0] w wr
  desk : Blk wr d #[.slice (some ⟨g, 0, none⟩) n n] 26
  row : ∃ c : List Value, c.length = n ∧ c.take k = List.replicate k (.int .u8 171) ∧ Blk wr g c.toArray 5
  ne : g ≠ d
  new : g = g0 ∨ w.heap.size ≤ g

theorem take_set {c : List Value} {k : Nat} {v : Value} (hk : k < c.length) (h : c.take k = List.replicate k v) : (c.set k v).take (k + 1) = List.replicate (k + 1) v := by
  rw [List.take_succ_eq_append_getElem (by simpa using hk), List.take_set_of_le (by omega), h]
  simp [List.replicate_succ']

theorem FillInv.step {w wr : World} {d g n g0 k : Nat} (h : FillInv w d g n g0 k wr) (hk : k < n) : FillInv w d g n g0 (k + 1) (wr.setCell ⟨g, k, none⟩ (.int .u8 171)) := by
  obtain ⟨c, hc, ht, hb⟩ := h.row
  refine ⟨h.keep.set (by rcases h.new with e | e <;> simp [e]) _, h.desk.setOther (fun e => h.ne e.symm) _, ⟨c.set k (.int .u8 171), by simpa using hc, take_set (by omega) ht, by simpa using hb.set k (.int .u8 171)⟩, h.ne, h.new⟩

set_option maxHeartbeats 800000 in
theorem lay_any (d g n : Nat) (c : List Value) (a : Option Addr) (cap : Nat) (xs : List UInt8) (w : World) (hlen : xs.length ≤ 140737488351232) (hn : n ≤ 9223372036854775807) (hd : DeskAt w d g n c) (hr : Rd w a (bs xs)) (had : xs ≠ [] → ablk a ≠ d ∧ ablk a ≠ g) :
    Calls Try.prog 12 #[.pointer (some ⟨d, 0, none⟩), .slice a xs.length cap] w fun e w' => ∃ g' n', e = .returned (.slice (some ⟨g', 0, none⟩) xs.length n') ∧ DeskAt w' d g' n' (laid xs n') ∧ xs.length + 5 ≤ n' ∧ n' ≤ 9223372036854775807 ∧ Keep [d, g] w w' ∧ (g' = g ∨ w.heap.size ≤ g') ∧ g' ≠ d := by
  have hl := hd.len
  have hmk : ∀ w, (Instr.makeSlice 23 (.int .i64 (2 * (xs.length : Int) + 40)) (.int .i64 (2 * (xs.length : Int) + 40))).run Try.prog w = .ok (.slice (some ⟨w.heap.size, 0, none⟩) (2 * xs.length + 40) (2 * xs.length + 40)) (w.alloc (.cells (madeCells #[.int .u8 0] (2 * xs.length + 40)) 5)) := by
    intro w
    have h := run_make_row' (P := Try.prog) 23 5 (.int .u8 0) 1 Try.underlying23 Try.info5 rfl .i64 .i64 (2 * xs.length + 40) (by omega) (by omega) w
    simpa using h
  have HM := Lib.hid hmk
  clear hmk
  obtain ⟨a0, hb0, ha0⟩ : ∃ a0, Blk w d #[.slice a0 n n] 26 ∧ (n ≠ 0 → a0 = some ⟨g, 0, none⟩ ∧ g ≠ d ∧ Blk w g c.toArray 5) := by
    rcases hd.at_ with ⟨h1, h2, h3⟩ | ⟨h1, h2, h3⟩
    · exact ⟨none, by rw [h2]; exact h1, fun h => absurd h2 h⟩
    · exact ⟨_, h2, fun _ => ⟨rfl, h1, h3⟩⟩
  have c0 := hb0.cell (i := 0) rfl
  have f0 := hb0.free (i := 0)
  have hdlt := hd.lt
  have HL := Lib.hid hl
  clear hl
  go_enter Try.func12, Try.ntmps12
  go_upto_if 14 with fail
  go_cut [] (fun wc => ∃ g' n', FillInv w d g' n' g 0 wc ∧ xs.length + 5 ≤ n' ∧ n' ≤ 9223372036854775807)
  case first =>
    have hmk := HM.out
    by_cases hlt : n < xs.length + 5
    · go_wp2
      go_meet
      case rel =>
        have hsz : d ≠ w.heap.size := by omega
        refine ⟨w.heap.size, 2 * xs.length + 40, ⟨?_, ?_, ?_, by omega, Or.inr (by omega)⟩, by omega, by omega⟩
        · exact ((Keep.refl _ _).set (by simp) _).alloc _
        · have := (hb0.set 0 (.slice (some ⟨w.heap.size, 0, none⟩) (2 * xs.length + 40) (2 * xs.length + 40))).alloc (Obj.cells (madeCells #[.int .u8 0] (2 * xs.length + 40)) 5)
          simpa using this
        · refine ⟨(madeCells #[.int .u8 0] (2 * xs.length + 40)).toList, by simp [size_madeCells], by simp, ?_⟩
          have := Blk.new' (b := w.heap.size) (w.setCell ⟨d, 0, none⟩ (.slice (some ⟨w.heap.size, 0, none⟩) (2 * xs.length + 40) (2 * xs.length + 40))) (madeCells #[.int .u8 0] (2 * xs.length + 40)) 5 (by simp)
          simpa using this
    · obtain ⟨rfl, hgd, hbg⟩ := ha0 (by omega)
      have HB := Lib.hid hgd
      clear hgd
      go_wp2
      go_meet
      case rel => exact ⟨g, n, ⟨Keep.refl _ _, hb0, ⟨c, HL.out, by simp, hbg⟩, HB.out, Or.inl rfl⟩, by omega, by omega⟩
  case rest =>
    obtain ⟨g', n', hinv, hn5, hn6⟩ := hcut
    clear c0 f0 HM
    go_wp2
    go_loopw [5] (fun i wr => ∃ k : Nat, k ≤ n' ∧ i = .int .i64 k ∧ FillInv w d g' n' g k wr) (fun i _ => n' - (intOf i).toNat)
    case atStart => exact ⟨0, by omega, rfl, hinv⟩
    case round =>
      obtain ⟨k, hk, rfl, hi⟩ := hrel
      clear hinv
      have c0 := hi.desk.cell (i := 0) rfl
      have f0 := hi.desk.free (i := 0)
      by_cases hlt : k < n'
      · obtain ⟨cc, hc1, hc2, hc3⟩ := hi.row
        obtain ⟨v1, c1⟩ : ∃ v1, wr.cell? ⟨g', k, none⟩ = some v1 := ⟨cc[k], hc3.cell (by simp [hc1, hlt])⟩
        have f1 := hc3.free (i := k)
        have HC := Lib.hid hc1
        have HC2 := Lib.hid hc2
        clear hc1 hc2
        go_wp2
        exact ⟨⟨k + 1, by omega, by go_num, hi.step hlt⟩, by simp [intOf]; omega⟩
      · obtain ⟨cc, hc1, hc2, hc3⟩ := hi.row
        have hrr : Rd wr a (bs xs) := hr.keep hi.keep (by intro h; have := had (by rintro rfl; simp at h); simp [this])
        have HC := Lib.hid hc1
        have HC2 := Lib.hid hc2
        clear hc1 hc2
        have hdg : Hid (d ∉ [g']) := by show ¬ _; simp; exact fun e => hi.ne e.symm
        have C1 : Hid ((bs xs).length = Nat.min xs.length n') := by show _ = _; rw [bs_length]; exact (Nat.min_eq_left (by omega)).symm
        have C2 : Hid (0 + (bs xs).length ≤ cc.length) := by show _ ≤ _; rw [bs_length, HC.out]; omega
        have C3 : Hid (∀ v ∈ bs xs, v.oneCell' = true) := by show ∀ _, _; simp [bs, Value.oneCell']
        go_wp2_with (refine wpList_copyB rfl (.tmp 41) (.tmp 42) 23 23 rfl 5 Try.underlying23 Try.size5 (some ⟨g', 0, none⟩) a n' n' xs.length cap rfl rfl g' 0 cc 5 hc3 (bs xs) C1.out (fun _ => rfl) hrr C2.out C3.out ?_; intro w1 hb1 hk1 hs1; have c2 := (hi.desk.keep hk1 hdg.out).cell (i := 0) rfl)
        go_ret
        refine ⟨g', n', rfl, ⟨?_, ?_, Or.inr ⟨hi.ne, hi.desk.keep hk1 (by simp; exact fun e => hi.ne e.symm), ?_⟩⟩, hn5, hn6, hi.keep.trans hk1 ?_, hi.new, hi.ne⟩
        · simp [laid]; omega
        · have := hi.keep.size; omega
        · have hb2 := hb1.out
          have e : (cc.take 0 ++ (bs xs ++ cc.drop (0 + (bs xs).length))) = laid xs n' := by
            have hk' : k = n' := by omega
            have h5 := HC2.out
            rw [hk', List.take_of_length_le (by rw [HC.out]; omega)] at h5
            simp only [laid, List.take_zero, List.nil_append, Nat.zero_add, bs_length, h5, List.drop_replicate]
          rwa [e] at hb2
        · intro b hb
          have := hi.new
          simp only [List.mem_singleton] at hb
          subst hb
          rcases this with rfl | h
          · simp
          · exact Or.inr h

theorem laid_lo (xs : List UInt8) (n k : Nat) (h : k < xs.length) : (laid xs n)[k]? = some (B8 xs[k]) := by
  simp [laid, List.getElem?_append_left, h]
theorem laid_hi (xs : List UInt8) (n k : Nat) (h : xs.length ≤ k) (hn : k < n) : (laid xs n)[k]? = some (.int .u8 171) := by
  rw [laid, List.getElem?_append_right (by simpa using h), List.getElem?_replicate, if_pos (by simp; omega)]

set_option maxHeartbeats 800000 in
theorem lies_any (d g n : Nat) (a : Option Addr) (cap : Nat) (xs : List UInt8) (w : World) (hn : n ≤ 9223372036854775807) (hx : xs.length ≤ n) (hd : DeskAt w d g n (laid xs n)) (hr : Rd w a (bs xs)) :
    Calls Try.prog 14 #[.pointer (some ⟨d, 0, none⟩), .slice a xs.length cap] w fun e w' => e = .returned (.bool true) ∧ ∃ m, w' = w.drewN m := by
  obtain ⟨a0, hb0, ha0⟩ : ∃ a0, Blk w d #[.slice a0 n n] 26 ∧ (n ≠ 0 → a0 = some ⟨g, 0, none⟩ ∧ Blk w g (laid xs n).toArray 5) := by
    rcases hd.at_ with ⟨h1, h2, h3⟩ | ⟨h1, h2, h3⟩
    · exact ⟨none, by rw [h2]; exact h1, fun h => absurd h2 h⟩
    · exact ⟨_, h2, fun _ => ⟨rfl, h3⟩⟩
  have c0 := hb0.cell (i := 0) rfl
  go_enter Try.func14, Try.ntmps14
  go_wp2
  go_loopw [5] (fun i wr => ∃ k m : Nat, k ≤ n ∧ i = .int .i64 k ∧ wr = w.drewN m) (fun i _ => n - (intOf i).toNat)
  case atStart => exact ⟨0, 0, by omega, rfl, rfl⟩
  case round =>
    obtain ⟨k, m, hk, rfl, rfl⟩ := hrel
    by_cases hlt : k < n
    · obtain ⟨rfl, hbg⟩ := ha0 (by omega)
      clear ha0
      by_cases hkx : k < xs.length
      · have c1 := hbg.cell (i := k) (by simpa using laid_lo xs n k hkx)
        obtain ⟨b, off, rfl, hcell⟩ := hr.byte hkx
        have d1 : decide (k < xs.length) = true := by simp; omega
        have d2 : decide (xs.length ≤ k) = false := by simp; omega
        go_wp2
        go_quiet (fail)
        go_wp2
        exact ⟨⟨k + 1, m + nq, by omega, by go_num, rfl⟩, by simp [intOf]; omega⟩
      · have c1 := hbg.cell (i := k) (by simpa using laid_hi xs n k (by omega) hlt)
        have d1 : decide (k < xs.length) = false := by simp; omega
        have d2 : decide (xs.length ≤ k) = true := by simp; omega
        go_wp2
        go_quiet (fail)
        go_wp2
        exact ⟨⟨k + 1, m + nq, by omega, by go_num, rfl⟩, by simp [intOf]; omega⟩
    · go_wp2
      go_ret
      exact ⟨rfl, m, rfl⟩
end Go.Proofs.Ytcbinihjbmgkdaa

/- The walk of the iterator that Windows answers, whatever function it is ranged over with. -/
import Derived.Test.YtpocegdlobnhaaaIb
import Derived.Test.YtpocegdlobnhaaaRD
set_option linter.unusedVariables false
set_option linter.unusedSimpArgs false
set_option maxRecDepth 100000
namespace Go.Proofs.Ytpocegdlobnhaaa.Rol
open Go.RowKit

/-- What the iterator has captured: the size, the bytes in a block of their own. -/
structure WinAt (w : World) (ps pd gd : Nat) (size : Int) (data : List UInt8) : Prop where
  hs : Blk w ps #[.int .i64 size] 3
  hd : ∃ a cap, Blk w pd #[.slice a data.length cap] 22 ∧ data.length ≤ cap ∧ (data ≠ [] → a = some ⟨gd, 0, none⟩)
  hg : data ≠ [] → ∃ cur, Blk w gd (bs data ++ cur).toArray 5
  len : data.length ≤ 140737488351232

def winCount (n : Nat) (size : Int) : Nat := if 1 ≤ size ∧ size ≤ n then n - size.toNat + 1 else 0
def window (data : List UInt8) (size : Int) (k : Nat) : List UInt8 := (data.drop k).take size.toNat

set_option maxHeartbeats 1600000 in
theorem windows_none (ps pd gd : Nat) (size : Int) (data : List UInt8) (w : World) (h : WinAt w ps pd gd size data) (hN : winCount data.length size = 0) (hw : -9223372036854775808 ≤ size ∧ size ≤ 9223372036854775807) (y : Value) :
    Calls Try.prog 119 #[y, .pointer (some ⟨ps, 0, none⟩), .pointer (some ⟨pd, 0, none⟩)] w fun e w' => e = .returned (.tuple #[]) ∧ ∃ m, w' = w.drewN m := by
  obtain ⟨a, cap, hb, hcap, ha⟩ := h.hd
  have c0 := h.hs.cell (i := 0) rfl
  have c1 := hb.cell (i := 0) rfl
  have hN' : size < 1 ∨ (data.length : Int) < size := by unfold winCount at hN; split at hN <;> omega
  clear hN
  by_cases h1 : size < 1
  · have d1 : decide (size < 1) = true := decide_eq_true h1
    clear hN'
    go_enter Try.func119, Try.ntmps119
    go_wp2
    go_returns
    exact ⟨rfl, 0, rfl⟩
  · have d1 : decide (size < 1) = false := decide_eq_false h1
    have d2 : decide ((data.length : Int) < size) = true := decide_eq_true (by omega)
    clear hN'
    go_enter Try.func119, Try.ntmps119
    go_wp2
    go_returns
    exact ⟨rfl, 0, rfl⟩

theorem WinAt.keep {w w' : World} {ps pd gd : Nat} {size : Int} {data : List UInt8} (h : WinAt w ps pd gd size data) {S : List Nat} (k : Keep S w w') (h1 : ps ∉ S) (h2 : pd ∉ S) (h3 : gd ∉ S) : WinAt w' ps pd gd size data := by
  obtain ⟨a, cap, hb, hcap, ha⟩ := h.hd
  exact ⟨h.hs.keep k h1, ⟨a, cap, hb.keep k h2, hcap, ha⟩, fun e => by obtain ⟨cur, hc⟩ := h.hg e; exact ⟨cur, hc.keep k h3⟩, h.len⟩

structure WinInv (w : World) (ps pd gd sb : Nat) (size : Int) (data : List UInt8) (k : Nat) (wr : World) : Prop where
  at_ : WinAt wr ps pd gd size data
  cur : Blk wr sb #[.int .u16 (sums (window data size k)).1, .int .u16 (sums (window data size k)).2] 128
  lt : ps < sb ∧ pd < sb ∧ gd < sb

theorem window_next (data : List UInt8) (n k : Nat) (h1 : 1 ≤ n) (h : k + n < data.length) : window data n k = data[k] :: ((data.drop (k + 1)).take (n - 1)) ∧ window data n (k + 1) = ((data.drop (k + 1)).take (n - 1)) ++ [data[k + n]] ∧ ((data.drop (k + 1)).take (n - 1)).length + 1 = n := by
  simp only [window, Int.toNat_natCast]
  refine ⟨?_, ?_, by simp; omega⟩
  · rw [List.drop_eq_getElem_cons (by omega)]
    obtain ⟨m, rfl⟩ : ∃ m, n = m + 1 := ⟨n - 1, by omega⟩
    rfl
  · obtain ⟨m, rfl⟩ : ∃ m, n = m + 1 := ⟨n - 1, by omega⟩
    rw [List.take_succ_eq_append_getElem (by simp; omega)]
    simp only [Nat.add_sub_cancel, List.getElem_drop]
    congr 3; omega

theorem WinInv.step {w w3 : World} {ps pd gd sb n k m : Nat} {data : List UInt8} (hat : WinAt w3 ps pd gd n data) (hcur : Blk w3 sb #[.int .u16 (sums (window data n k)).1, .int .u16 (sums (window data n k)).2] 128)
    (hl : ps < sb ∧ pd < sb ∧ gd < sb) (h1 : 1 ≤ n) (h : k + n < data.length) :
    WinInv w ps pd gd sb n data (k + 1) (((w3.setCell ⟨sb, 0, none⟩ (.int .u16 (pushS (sums (window data n k)) n data[k] data[k + n]).1)).setCell ⟨sb, 1, none⟩ (.int .u16 (pushS (sums (window data n k)) n data[k] data[k + n]).2)).drewN m) := by
  have hk : Keep [sb] w3 (((w3.setCell ⟨sb, 0, none⟩ (.int .u16 (pushS (sums (window data n k)) n data[k] data[k + n]).1)).setCell ⟨sb, 1, none⟩ (.int .u16 (pushS (sums (window data n k)) n data[k] data[k + n]).2)).drewN m) := by
    repeat (first | exact Keep.refl _ _ | refine Keep.drewN ?_ | refine Keep.set ?_ (by simp) _)
  obtain ⟨e1, e2, e3⟩ := window_next data n k h1 h
  refine ⟨hat.keep hk (by simp; omega) (by simp; omega) (by simp; omega), ?_, hl⟩
  have e : sums (window data n (k + 1)) = pushS (sums (window data n k)) n data[k] data[k + n] := by
    rw [e2, sums_push data[k], ← e1]; congr 1; omega
  rw [e]
  simp [Blk, heap_setCell_if, heap_drewN, hcur.hp, objSet_cells]

set_option maxHeartbeats 1600000 in
set_option maxRecDepth 100000 in
/-- WINDOWS, GONE THROUGH BY ANY FUNCTION: I k sb: what holds ahead of the k-th window (sb: the iterator's own block), J: when it is over. -/
theorem windows_some (f : Nat) (caps : Array Value) (ps pd gd : Nat) (size : Int) (data : List UInt8) (w0 : World) (I : Nat → Nat → World → Prop) (J : World → Prop)
    (hcall : ∀ (args : Array Value) (w : World), (callFunc f args).run Try.prog w = .ok (.enter f args) w)
    (h : WinAt w0 ps pd gd size data) (hlt : ps < w0.heap.size ∧ pd < w0.heap.size ∧ gd < w0.heap.size) (h1 : 1 ≤ size) (h2 : size ≤ data.length)
    (hstart : ∀ sb w, Keep [] w0 w → w0.heap.size ≤ sb → sb < w.heap.size → I 0 sb w)
    (hstab : ∀ k sb w w', I k sb w → Keep [sb] w w' → I k sb w')
    (hstep : ∀ k sb w, k + size.toNat ≤ data.length → w0.heap.size ≤ sb → sb < w.heap.size → I k sb w → Calls Try.prog f (#[.int .i64 k, .int .i64 (sumOf (window data size k))] ++ caps) w fun e w' =>
      ∃ b : Bool, e = .returned (.bool b) ∧ (∃ T, Keep T w w' ∧ sb ∉ T ∧ ps ∉ T ∧ pd ∉ T ∧ gd ∉ T) ∧ (if b = true ∧ k + 1 + size.toNat ≤ data.length then I (k + 1) sb w' else J w')) :
    Calls Try.prog 119 #[.func (.func f) #[] caps, .pointer (some ⟨ps, 0, none⟩), .pointer (some ⟨pd, 0, none⟩)] w0 fun e w' => e = .returned (.tuple #[]) ∧ J w' := by
  obtain ⟨a, cap, hb, hcap, ha⟩ := h.hd
  obtain ⟨n, rfl⟩ : ∃ n : Nat, size = n := ⟨size.toNat, by omega⟩
  have hlen := h.len
  have hne : data ≠ [] := by rintro rfl; simp at h2; omega
  obtain rfl := ha hne
  obtain ⟨cur, hgd⟩ := h.hg hne
  have c0 := h.hs.cell (i := 0) rfl
  have c1 := hb.cell (i := 0) rfl
  have d1 : decide ((n : Int) < 1) = false := decide_eq_false (by omega)
  have d2 : decide (data.length < n) = false := decide_eq_false (by omega)
  have d3 : decide ((data.length : Int) < n) = false := decide_eq_false (by omega)
  have b1 : (n : Int) ≤ cap := by omega
  have HH := Lib.hid (And.intro hstart (And.intro hstab hstep))
  clear hstart hstab hstep
  have HNE := Lib.hid hne
  clear hne
  go_enter Try.func119, Try.ntmps119
  go_wp2_with fail
  have hrd : Rd w0 (some ⟨gd, 0, none⟩) (bs (data.take n)) := by
    refine Rd.of_blk hgd 0 (fun k v hk => ?_)
    obtain ⟨hk1, hk2⟩ := List.getElem?_eq_some_iff.1 hk
    have hk1' : k < n ∧ k < data.length := by simp at hk1; omega
    have := bs_app_get data cur k hk1'.2
    simpa [← hk2] using this
  refine (of_n (some ⟨gd, 0, none⟩) n cap (data.take n) w0 (by simp; omega) (by omega) hrd).mono ?_
  rintro e w1 ⟨rfl, hk1⟩
  have hs1 := hk1.size
  obtain ⟨hstart, hstab, hstep⟩ := HH.out
  have hI0 := hstart w1.heap.size (w1.alloc (.cells #[.int .u16 (sums (data.take n)).1, .int .u16 (sums (data.take n)).2] 128)) (hk1.alloc _) (by omega) (by simp)
  have hW0 : WinInv w0 ps pd gd w1.heap.size n data 0 (w1.alloc (.cells #[.int .u16 (sums (data.take n)).1, .int .u16 (sums (data.take n)).2] 128)) := by
    refine ⟨h.keep (hk1.alloc _) (by simp) (by simp) (by simp), ?_, by omega⟩
    have := Blk.new w1 #[.int .u16 (sums (data.take n)).1, .int .u16 (sums (data.take n)).2] 128
    simpa [window] using this
  clear hstart hstab hstep
  go_wp2
  go_loopw [5] (fun i wr => ∃ k : Nat, k + n ≤ data.length ∧ i = .int .i64 k ∧ I k w1.heap.size wr ∧ WinInv w0 ps pd gd w1.heap.size n data k wr) (fun i _ => data.length - (intOf i).toNat)
  case atStart => exact ⟨0, by omega, rfl, hI0, hW0⟩
  case round =>
    clear hI0 hW0 c0 c1
    obtain ⟨k, hk, rfl, hI, hW⟩ := hrel
    have s0 := hW.cur.cell (i := 0) rfl
    have s1 := hW.cur.cell (i := 1) rfl
    have hsr := sums_range (window data n k)
    have hslt := hW.cur.lt
    go_wp2_with fail
    refine (number_any _ _ hsr.1 hsr.2 wr).mono ?_
    rintro e w2 ⟨rfl, hk2⟩
    go_wp2_with fail
    obtain ⟨hstart, hstab, hstep⟩ := HH.out
    have hI2 := hstab k w1.heap.size wr w2 hI (hk2.mono (by simp))
    have hs2 := hk2.size
    refine (hstep k w1.heap.size w2 (by simpa using hk) (by omega) (by omega) hI2).mono ?_
    rintro e w3 ⟨b, rfl, ⟨T, hk3, t1, t2, t3, t4⟩, hJ⟩
    have hat3 := (hW.at_.keep hk2 (by simp) (by simp) (by simp)).keep hk3 t2 t3 t4
    have hcur3 := (hW.cur.keep hk2 (by simp)).keep hk3 t1
    obtain ⟨a3, cap3, hb3, hcap3, ha3⟩ := hat3.hd
    obtain rfl := ha3 HNE.out
    have c0 := hat3.hs.cell (i := 0) rfl
    have c1 := hb3.cell (i := 0) rfl
    have hstab' := hstab
    clear hstart hstab hstep s0 s1
    have HJ := Lib.hid hJ
    clear hJ
    cases b with
    | false =>
      go_wp2
      go_returns
      exact ⟨rfl, by simpa using HJ.out⟩
    | true =>
      by_cases hlt2 : k + n < data.length
      · have g1 : decide ((k : Int) + n < data.length) = true := decide_eq_true (by omega)
        obtain ⟨cur3, hgd3⟩ := hat3.hg HNE.out
        have l0 : w3.cell? ⟨gd, k, none⟩ = some (B8 data[k]) := hgd3.cell (by simpa using bs_app_get data cur3 k (by omega))
        have l1 : w3.cell? ⟨gd, k + n, none⟩ = some (B8 data[k + n]) := hgd3.cell (by simpa using bs_app_get data cur3 (k + n) hlt2)
        have s0 := hcur3.cell (i := 0) rfl
        have s1 := hcur3.cell (i := 1) rfl
        have f0 := hcur3.free (i := 0)
        have f1 := hcur3.free (i := 1)
        have kl : (k : Int) < data.length := by omega
        have kl2 : (k : Int) + n < data.length := by omega
        go_wp2
        have q1 : IntKind.i64.wrap ((k : Int) + n) = (k : Int) + n := IntWalk.i64_in _ (by omega)
        have q2 : 0 ≤ (k : Int) + n := by omega
        have q3 : ((k : Int) + n).toNat = k + n := by omega
        have n1 : ps ≠ w1.heap.size := by omega
        have n2 : pd ≠ w1.heap.size := by omega
        have n3 : gd ≠ w1.heap.size := by omega
        go_region_held3 (fun w' => w'.cell? ⟨ps, 0, none⟩ = some (.int .i64 n) ∧ w'.cell? ⟨pd, 0, none⟩ = some (.slice (some ⟨gd, 0, none⟩) data.length cap3) ∧ w'.cell? ⟨gd, k, none⟩ = some (B8 data[k]) ∧ w'.cell? ⟨gd, k + n, none⟩ = some (B8 data[k + n])) (go_simp) ((go_at_call 120; go_must (refine (push_any w1.heap.size 0 n (sums (window data n k)) data[k] data[k + n] _ ?_ ?_ ?_ ?_ (by omega)).mono ?_); go_must (iterate 4 (focus (go_simp))); go_must (rintro e w4 ⟨rfl, m, rfl⟩)))
        have hI3 : I (k + 1) w1.heap.size w3 := by
          have := HJ.out
          rwa [if_pos (by simp; omega)] at this
        have hI4 := hstab' (k + 1) w1.heap.size w3 (((w3.setCell ⟨w1.heap.size, 0, none⟩ (.int .u16 (pushS (sums (window data n k)) n data[k] data[k + n]).1)).setCell ⟨w1.heap.size, 1, none⟩ (.int .u16 (pushS (sums (window data n k)) n data[k] data[k + n]).2)).drewN (1 + m)) hI3
          (by repeat (first | exact Keep.refl _ _ | refine Keep.drewN ?_ | refine Keep.set ?_ (by simp) _))
        have hW4 := WinInv.step (w := w0) (m := 1 + m) hat3 hcur3 hW.lt (by omega) hlt2
        go_wp2
        exact ⟨⟨k + 1, by omega, by go_num, hI4, hW4⟩, by simp [intOf]; omega⟩
      · have g1 : decide ((k : Int) + n < data.length) = false := decide_eq_false (by omega)
        go_wp2
        go_end0
        refine ⟨rfl, ?_⟩
        have := HJ.out
        rw [if_neg (by simp; omega)] at this
        exact this

set_option maxHeartbeats 400000 in
/-- 'Windows': the iterator, and what it has captured. -/
theorem windowsMake_any (a : Option Addr) (n cap : Nat) (size : Int) (data : List UInt8) (w : World) (hl : data.length = n) (hn : n ≤ 140737488351232) (hr : Rd w a (bs data)) (hc : a = none → cap = 0) :
    Calls Try.prog 104 #[.slice a n cap, .int .i64 size] w fun e w' => ∃ ps pd gd, e = .returned (.func (.func 119) #[] #[.pointer (some ⟨ps, 0, none⟩), .pointer (some ⟨pd, 0, none⟩)]) ∧
      WinAt w' ps pd gd size data ∧ w.heap.size ≤ ps ∧ w.heap.size ≤ pd ∧ w.heap.size ≤ gd ∧ (ps < w'.heap.size ∧ pd < w'.heap.size ∧ gd < w'.heap.size) ∧ Keep [] w w' := by
  have hmf : ∀ (fn : Fn) (first cap : Array Value) (w : World), (Instr.makeFunc fn first cap).run Try.prog w = .ok (.func fn first cap) w := fun _ _ _ _ => rfl
  have HL := Lib.hid hl
  clear hl
  go_enter Try.func104, Try.ntmps104
  go_wp2_with fail
  refine (clone_n a n cap data _ HL.out (by omega) (hr.keep (((Keep.refl [] _).alloc _).alloc _) (by simp)) hc).mono ?_
  rintro e w1 ⟨v, rfl, hown, hk1⟩
  have hs1 := hk1.size
  have hb0 : Blk w1 w.heap.size #[.slice a n cap] 22 := ((Blk.new _ _ _).alloc _).keep hk1 (by simp)
  have hb1 : Blk w1 (w.heap.size + 1) #[.int .i64 size] 3 := (Blk.new' _ _ _ (by simp)).keep hk1 (by simp)
  have c0 := hb0.cell (i := 0) rfl
  have f0 := hb0.free (i := 0)
  obtain ⟨a', cap', rfl, ha', hrd', hln⟩ := owns_form hown
  go_wp2
  go_returns
  simp only [World.size_alloc] at hs1 hown
  have hk : Keep [] w (w1.setCell ⟨w.heap.size, 0, none⟩ (.slice a' n cap')) := ((((Keep.refl [] w).alloc _).alloc _).trans' hk1).set (by simp) _
  rcases owns_cases hown with ⟨h1, h2⟩ | ⟨g, cap2, cur, h1, hg, hb, hcc, hm⟩
  · have h2' : data = [] := by simpa using h2
    subst h2'
    have hn0 : n = 0 := HL.out.symm
    subst hn0
    refine ⟨w.heap.size + 1, w.heap.size, w.heap.size, rfl, ⟨?_, ⟨a', cap', ?_, by simp, by simp⟩, by simp, by simp⟩, by omega, by omega, by omega, ?_, hk⟩
    · simp [Blk, heap_setCell_if, hb1.hp]
    · simp [Blk, heap_setCell_if, hb0.hp, objSet_cells]
    · simp; omega
  · simp only [Value.slice.injEq] at h1
    obtain ⟨rfl, h1b, rfl⟩ := h1
    have hne : g ≠ w.heap.size := by omega
    have hlt := hb.lt
    refine ⟨w.heap.size + 1, w.heap.size, g, rfl, ⟨?_, ⟨_, cap', ?_, ?_, fun _ => rfl⟩, fun _ => ⟨cur, ?_⟩, by rw [HL.out]; exact hn⟩, by omega, by omega, by omega, ?_, hk⟩
    · simp [Blk, heap_setCell_if, hb1.hp]
    · simp [Blk, heap_setCell_if, hb0.hp, objSet_cells, HL.out]
    · rw [hcc, bs_length]; omega
    · simp [Blk, heap_setCell_if, hb.hp, hne]
    · simp; omega
end Go.Proofs.Ytpocegdlobnhaaa.Rol

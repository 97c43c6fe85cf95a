/- Hash.Sum: what was taken, filled up, and the state's words as bytes. -/
import Derived.Test.YtpocegdlobnhaaaIb
import Derived.Test.YtpocegdlobnhaaaDD
import Derived.Test.YtpocegdlobnhaaaDQ
set_option linter.unusedVariables false
set_option linter.unusedSimpArgs false
set_option maxRecDepth 100000
namespace Go.Proofs.Ytpocegdlobnhaaa.Dig
open Go.RowKit

section
variable {w w' : World} {b g : Nat} {c c' : Array Value} {t : TypeId} {S : List Nat}
theorem _root_.Go.Proofs.Ytpocegdlobnhaaa.Blk.setRow (h : Blk w b c t) (c' : Array Value) : Blk (w.setRow b c') b c' t := setRow_heap w b c c' t (0, 0) h
theorem _root_.Go.Proofs.Ytpocegdlobnhaaa.Blk.setRowOther (h : Blk w b c t) (hb : b ≠ g) (c' : Array Value) : Blk (w.setRow g c') b c t := h.of_eq (setRow_other w g b c' (by omega))
theorem _root_.Go.Proofs.Ytpocegdlobnhaaa.Keep.setRow (h : Keep S w w') (hb : g ∈ S ∨ w.heap.size ≤ g) (c' : Array Value) : Keep S w (w'.setRow g c') :=
  h.trans (S := S) (T := [g]) ⟨rfl, rfl, rfl, by simp, fun k _ hk => setRow_other w' g k _ (by simpa using hk)⟩ (by intro x hx; simp only [List.mem_singleton] at hx; subst hx; exact hb)
end

/-- A state's words as bytes. -/
def outB (st : List Int) : List UInt8 := st.flatMap fun x => [UInt8.ofNat (x / 2 ^ 24 % 256).toNat, UInt8.ofNat (x / 2 ^ 16 % 256).toNat, UInt8.ofNat (x / 2 ^ 8 % 256).toNat, UInt8.ofNat (x % 256).toNat]
theorem outB_length : ∀ st : List Int, (outB st).length = 4 * st.length
  | [] => rfl
  | x :: r => by
    have := outB_length r
    simp only [outB, List.flatMap_cons, List.length_append, List.length_cons, List.length_nil] at this ⊢
    omega
theorem outB_get {st : List Int} {x : Int} : ∀ {i : Nat}, st[i]? = some x →
    (outB st)[4 * i]? = some (UInt8.ofNat (x / 2 ^ 24 % 256).toNat) ∧ (outB st)[4 * i + 1]? = some (UInt8.ofNat (x / 2 ^ 16 % 256).toNat) ∧
    (outB st)[4 * i + 2]? = some (UInt8.ofNat (x / 2 ^ 8 % 256).toNat) ∧ (outB st)[4 * i + 3]? = some (UInt8.ofNat (x % 256).toNat) := by
  induction st with
  | nil => intro i h; simp at h
  | cons y r ih =>
    intro i h
    have e : outB (y :: r) = [UInt8.ofNat (y / 2 ^ 24 % 256).toNat, UInt8.ofNat (y / 2 ^ 16 % 256).toNat, UInt8.ofNat (y / 2 ^ 8 % 256).toNat, UInt8.ofNat (y % 256).toNat] ++ outB r := rfl
    cases i with
    | zero =>
      simp only [List.getElem?_cons_zero, Option.some.injEq] at h
      subst h
      exact ⟨rfl, rfl, rfl, rfl⟩
    | succ i =>
      have := ih (i := i) (by simpa using h)
      rw [e, show 4 * (i + 1) = 4 * i + 4 by omega]
      refine ⟨?_, ?_, ?_, ?_⟩ <;> rw [List.getElem?_append_right (by simp only [List.length_cons, List.length_nil]; omega)] <;> simp only [List.length_cons, List.length_nil]
      · rw [show 4 * i + 4 - (0 + 1 + 1 + 1 + 1) = 4 * i by omega]; exact this.1
      · rw [show 4 * i + 4 + 1 - (0 + 1 + 1 + 1 + 1) = 4 * i + 1 by omega]; exact this.2.1
      · rw [show 4 * i + 4 + 2 - (0 + 1 + 1 + 1 + 1) = 4 * i + 2 by omega]; exact this.2.2.1
      · rw [show 4 * i + 4 + 3 - (0 + 1 + 1 + 1 + 1) = 4 * i + 3 by omega]; exact this.2.2.2

/-- A row whose first k entries are those of l, and noughts behind. -/
def upTo (l : List UInt8) (k : Nat) : List UInt8 := l.take k ++ List.replicate (l.length - k) 0
theorem upTo_length (l : List UInt8) {k : Nat} (hk : k ≤ l.length) : (upTo l k).length = l.length := by simp [upTo]; omega
theorem upTo_none (l : List UInt8) : upTo l 0 = List.replicate l.length 0 := by simp [upTo]
theorem upTo_all (l : List UInt8) : upTo l l.length = l := by simp [upTo]
theorem upTo_set {l : List UInt8} {k : Nat} {x : UInt8} (hx : l[k]? = some x) : (upTo l k).set k x = upTo l (k + 1) := by
  have hk := (List.getElem?_eq_some_iff.1 hx).1
  apply List.ext_getElem?
  intro j
  by_cases hj : j = k
  · subst hj
    rw [List.getElem?_set_self (by rw [upTo_length l (by omega)]; exact hk)]
    rw [upTo, List.getElem?_append_left (by simp; omega), List.getElem?_take, if_pos (by omega), hx]
  · rw [List.getElem?_set_ne (by omega), upTo, upTo]
    by_cases h1 : j < k
    · rw [List.getElem?_append_left (by simp; omega), List.getElem?_append_left (by simp; omega), List.getElem?_take, List.getElem?_take, if_pos h1, if_pos (by omega)]
    · rw [List.getElem?_append_right (by simp; omega), List.getElem?_append_right (by simp; omega)]
      simp only [List.getElem?_replicate, List.length_take]
      congr 1
      simp only [eq_iff_iff]; omega

theorem bs_set (l : List UInt8) (k : Nat) (x : UInt8) : (bs (l.set k x)).toArray = (bs l).toArray.setIfInBounds k (B8 x) := by
  apply Array.ext'; simp [bs, List.map_set]
theorem ofNat_B8 (x : Int) : Value.int .u8 (x % 256) = B8 (UInt8.ofNat (x % 256).toNat) := by
  have := wrap_u8_of x
  exact this

/-- The digest of a message. -/
def absorb (d : List UInt8) (n : Nat) : List Int := absorbF comp d n
def sha (d : List UInt8) : List UInt8 := outB (absorb (pad d) ((pad d).length / 64))
theorem absorb_length (d : List UInt8) : ∀ n, (absorb d n).length = 8
  | 0 => rfl
  | n + 1 => comp_length (absorb_length d n)
theorem sha_length (d : List UInt8) : (sha d).length = 32 := by rw [sha, outB_length, absorb_length]

theorem be8_get {n i : Nat} (hi : i < 8) : (be8 n)[i]? = some (UInt8.ofNat (8 * n / 2 ^ (56 - 8 * i))) := by simp [be8, hi]
theorem be8_value {n : Nat} {i : Nat} {T8 : Int} (hi : i < 8) (hT : T8 = (8 * (n : Int)) % 18446744073709551616) : Value.int .u8 (T8 / 2 ^ (56 - 8 * i) % 256) = B8 (UInt8.ofNat (8 * n / 2 ^ (56 - 8 * i))) := by
  rw [ofNat_B8]
  congr 1
  have key : (T8 / 2 ^ (56 - 8 * i) % 256).toNat = 8 * n / 2 ^ (56 - 8 * i) % 256 := by
    have : i = 0 ∨ i = 1 ∨ i = 2 ∨ i = 3 ∨ i = 4 ∨ i = 5 ∨ i = 6 ∨ i = 7 := by omega
    rcases this with rfl | rfl | rfl | rfl | rfl | rfl | rfl | rfl <;> simp only [Nat.reduceMul, Nat.reduceSub, Nat.reducePow, Int.reducePow] <;> omega
  rw [key]
  apply UInt8.toNat_inj.1
  simp

/-- The zero value of a Hash. -/
theorem zero53 : ∀ w, (zeroValue 161).run Try.prog w = .ok (.agg (hashCells false (List.replicate 8 0) (List.replicate 64 0) 0 0)) w :=
  (zero_of_info (n := 75) (by kernel_rfl)).1
theorem size53 : (Try.prog.info? 161).map (·.size) = some 75 := by kernel_rfl
theorem Took.zero' : Took [] false (List.replicate 8 0) (List.replicate 64 0) 0 0 := ⟨rfl, rfl, rfl, (fun e => by cases e), fun _ => ⟨rfl, rfl⟩⟩
theorem Took.hE {d : List UInt8} {b : Bool} {st : List Int} {bl : List UInt8} {h : Nat} {tot : Int} (k : Took d b st bl h tot) : h = d.length % 64 := by
  cases b with
  | true => exact (k.begun rfl).hvE
  | false => obtain ⟨rfl, rfl⟩ := k.zero rfl; rfl
theorem hashCells_all {b : Bool} {st : List Int} {bl : List UInt8} {hv tot : Int} : (hashCells b st bl hv tot).all (·.oneCell') = true := by
  refine Array.all_eq_true_iff_forall_mem.2 (fun v hv' => ?_)
  simp only [hashCells, hashList, List.mem_toArray, List.mem_append, List.mem_cons, u32s, bs, List.mem_map, List.not_mem_nil, or_false] at hv'
  rcases hv' with rfl | ⟨x, _, rfl⟩ | ⟨x, _, rfl⟩ | rfl | rfl <;> rfl
theorem hashCells_size {b : Bool} {st : List Int} {bl : List UInt8} {hv tot : Int} (hst : st.length = 8) (hbl : bl.length = 64) : (hashCells b st bl hv tot).size = 75 := by
  rw [hashCells, List.size_toArray, hashList_length hst hbl]

/-- The cell 'have' of the Hash in block C, as a measure of what is to be filled up. -/
def toFill (w : World) (C : Nat) : Nat :=
  match w.cell? ⟨C, 73, none⟩ with
  | some (.int _ n) => ((120 - n) % 64).toNat
  | _ => 0

theorem HashAt.fill {w : World} {C : Nat} {d : List UInt8} (h : HashAt w C d) : toFill w C = ((120 - ((d.length % 64 : Nat) : Int)) % 64).toNat := by
  obtain ⟨b, st, bl, n, tot, hB, hT⟩ := h
  rw [toFill, hB.cell (hash_have hT.st8 hT.bl64), hT.hE]
theorem run_index49 (w : World) (X : Array Value) (i : Nat) (v : Value) (hi : i < 8) (hx : X[i]? = some v) : (Instr.index 147 (.agg X) (.int .i64 i)).run Try.prog w = .ok v w := by
  have h1 : (0 : Int) ≤ i := by omega
  have h2 : (i : Int) < 8 := by omega
  have h3 : (i : Int).toNat = i := by omega
  simp [Instr.index, asIntOf, part, hx, go_sem]
  intro hh; omega
theorem wpList_store_last {P : Program} {ops : Array Oper} {rest : List Oper} {op : Oper} {a : Act} {w : World} {Q : Exit → Act → World → Prop} (hgd : op.guard = none) (ty : TypeId) (x y : Operand) (ho : op.op = .store ty x y)
    (b : Nat) (c c' : Array Value) (hx : a.eval x = .pointer (some ⟨b, 0, none⟩)) (hb : b = w.heap.size) (hy : a.eval y = .agg c')
    (hi : (P.info? ty).map (·.size) = some c'.size) (hz : c.size = c'.size) (h1 : c'.all (·.oneCell') = true)
    (h : wpList P ops Q rest (a.put op.dst undef) (w.alloc (.cells c' ty))) : wpList P ops Q (op :: rest) a (w.alloc (.cells c ty)) := by
  subst hb; exact wpList_store_new hgd ty x y ho c c' hx hy hi hz h1 h

set_option maxHeartbeats 4000000 in
set_option maxRecDepth 100000 in
theorem sum_any (p : Option Addr) (d : List UInt8) (w : World) (hp : (p = none ∧ d = []) ∨ ∃ hb, p = some ⟨hb, 0, none⟩ ∧ HashAt w hb d) :
    Calls Try.prog 103 #[.pointer p] w fun e w' => e = .returned (.agg (bs (sha d)).toArray) ∧ Keep [] w w' := by
  have hz := zero53
  go_enter Try.func103, Try.ntmps103
  go_upto_if 11 with fail
  go_cut [] (fun wc => ∃ b st bl, ∃ h : Nat, ∃ tot, wc = (w.alloc (.cells (bs (List.replicate 32 0)).toArray 25)).alloc (.cells (hashCells b st bl h tot) 161) ∧ Took d b st bl h tot)
  case first =>
    rcases hp with ⟨rfl, rfl⟩ | ⟨hb, rfl, b, st, bl, h, tot, hB, hT⟩
    · go_wp2_with fail
      go_meet
      case rel => exact ⟨false, _, _, 0, 0, rfl, Took.zero'⟩
    · have hlt := hB.lt
      have hB1 := (hB.alloc (.cells (bs (List.replicate 32 0)).toArray 25)).alloc (.cells (hashCells false (List.replicate 8 0) (List.replicate 64 0) 0 0) 161)
      have hsz := hashCells_size (b := b) (hv := (h : Int)) (tot := tot) hT.st8 hT.bl64
      go_wp2_with (first
        | (refine wpList_load_row rfl 161 (.tmp 13) rfl hb rfl 161 (hashCells b st bl h tot) (0, 0) _ hB1 Try.underlying161 rfl (by rw [hsz]; exact size53) ?_)
        | (refine wpList_store_last rfl 161 (.tmp 3) (.tmp 14) rfl _ _ (hashCells b st bl h tot) rfl (by simp) rfl (by rw [hsz]; exact size53) (by rw [hsz, hashCells_size rfl rfl]) hashCells_all ?_)
        | fail)
      go_meet
      case rel => exact ⟨b, st, bl, h, tot, rfl, hT⟩
  case rest =>
    clear hp
    obtain ⟨b, st, bl, h, tot, rfl, hT⟩ := hcut
    obtain ⟨R, hR⟩ : ∃ R, R = w.heap.size := ⟨_, rfl⟩
    obtain ⟨C, hC⟩ : ∃ C, C = w.heap.size + 1 := ⟨_, rfl⟩
    obtain ⟨W, hW⟩ : ∃ W, W = (w.alloc (.cells (bs (List.replicate 32 0)).toArray 25)).alloc (.cells (hashCells b st bl h tot) 161) := ⟨_, rfl⟩
    have hBC : Blk W C (hashCells b st bl h tot) 161 := by rw [hW]; exact Blk.new' _ _ _ (by rw [hC]; simp)
    have hBR : Blk W R (bs (List.replicate 32 0)).toArray 25 := by rw [hW, hR]; exact (Blk.new w _ 25).alloc _
    have hkW : Keep [] w W := by rw [hW]; exact ((Keep.refl [] w).alloc _).alloc _
    have hRC : R ≠ C := by omega
    have hRw : w.heap.size ≤ R := by omega
    have hCw : w.heap.size ≤ C := by omega
    rw [← hW, ← hC, ← hR]
    clear hW hR hC
    have hb8 : (if b then st else first).length = 8 := by cases b; rfl; exact hT.st8
    go_upto_region 6 with (first | (go_at_call 116; refine (begin_any C b st bl h tot W hBC hT.st8).mono ?_; rintro e w1 ⟨rfl, hB1, hk1⟩
                                    have ct := hB1.cell (hash_total hb8 hT.bl64)) | fail)
    have hH1 : HashAt w1 C d := ⟨true, _, bl, h, tot, hB1, hb8, hT.bl64, hT.total, fun _ => hT.first, fun e => by cases e⟩
    have hR1 := hBR.keep hk1 (by simpa using hRC)
    have hkw1 : Keep [] w w1 := hkW.trans hk1 (by simpa using hCw)
    have hT8 : IntKind.u64.wrap (8 * tot) = (8 * (d.length : Int)) % 18446744073709551616 := by
      rw [hT.total]; show (8 * ((d.length : Int) % 18446744073709551616)) % 18446744073709551616 = _; omega
    obtain ⟨T8, hTT⟩ : ∃ T8, IntKind.u64.wrap (8 * tot) = T8 := ⟨_, rfl⟩
    rw [hTT] at hT8
    simp only [hTT]
    have hCl : C < w1.heap.size := by obtain ⟨_, _, _, _, _, hx, _⟩ := hH1; exact hx.lt
    have HT8 := Lib.hid hT8
    clear hT hB1 hk1 hBR hBC hkW hb8 ct hTT hT8
    go_wp2_with (first | (go_at_call 102; refine (write_any C d [128] 1 1 (some ⟨w1.heap.size, 0, none⟩) _ (hH1.keep ((Keep.refl [] w1).alloc _) (by simp)) rfl (by omega) (by omega) (Rd.made w1 _ 5 (0, 0) _ _ rfl rfl) (fun _ => by show w1.heap.size ≠ C; omega)).mono ?_; rintro e w2 ⟨rfl, hH2, hk2⟩) | fail)
    have hR2 := (hR1.alloc (.cells #[Value.int .u8 128] 5)).keep hk2 (by simpa using hRC)
    have hkw2 : Keep [] w w2 := (hkw1.alloc _).trans hk2 (by simpa using hCw)
    clear hH1 hR1 hkw1 hk2 hCl
    go_loopw [] (fun wr => ∃ z, z ≤ padz d.length ∧ HashAt wr C (d ++ [128] ++ List.replicate z 0) ∧ Blk wr R (bs (List.replicate 32 0)).toArray 25 ∧ Keep [] w wr) (fun wr => toFill wr C)
    case atStart => exact ⟨0, by omega, by simpa using hH2, hR2, hkw2⟩
    case round =>
      clear hH2 hR2 hkw2
      obtain ⟨z, hz, hH, hRr, hkr⟩ := hrel
      obtain ⟨b', st', bl', h', tot', hB', hT'⟩ := hH
      have hH : HashAt wr C (d ++ [128] ++ List.replicate z 0) := ⟨b', st', bl', h', tot', hB', hT'⟩
      have hE := hT'.hE
      have hlen : (d ++ [128] ++ List.replicate z (0 : UInt8)).length = d.length + 1 + z := by simp; omega
      rw [hlen] at hE
      have cH := hB'.cell (hash_have hT'.st8 hT'.bl64)
      have hCl : C < wr.heap.size := hB'.lt
      by_cases hq : h' = 56
      · obtain rfl : z = padz d.length := padz_only hz (by omega)
        have hq1 : (h' : Int) = 56 := by omega
        have hq2 : ((h' : Int) == 56) = true := by simpa using hq1
        have hq3 : ((h' : Int) != 56) = false := by simpa using hq1
        obtain ⟨D, hD⟩ : ∃ D, d ++ [128] ++ List.replicate (padz d.length) 0 = D := ⟨_, rfl⟩
        rw [hD] at hH
        have HD := Lib.hid hD
        have HH := Lib.hid hH
        obtain ⟨E, hEE⟩ : ∃ E, E = wr.heap.size := ⟨_, rfl⟩
        have hEC : E ≠ C := by omega
        have hER : E ≠ R := by have := hRr.lt; omega
        have hEw : w.heap.size ≤ E := by have := hkr.size; omega
        clear hE hlen hH hD hz
        go_wp2_with fail
        rw [← hEE]
        clear hq1 hq2 hq3 hq
        go_loopw [26] (fun v wx => ∃ i, i ≤ 8 ∧ v = .int .i64 (i : Nat) ∧ HashAt wx C D ∧ Blk wx R (bs (List.replicate 32 0)).toArray 25 ∧ Blk wx E (bs (upTo (be8 d.length) i)).toArray 180 ∧ Keep [] w wx) (fun v _ => 8 - (intOf v).toNat)
        case atStart => exact ⟨0, by omega, rfl, HH.out.keep ((Keep.refl [] wr).alloc _) (by simp), hRr.alloc _, by rw [hEE, upTo_none, be8_length]; exact Blk.new wr _ 180, hkr.alloc _⟩
        case round =>
          clear HH hRr hkr cH hCl hT' hB' hEE
          obtain ⟨i, hi, rfl, hH, hRr, hBE, hkr⟩ := hrel
          by_cases hlt : i < 8
          · have ul : (upTo (be8 d.length) i).length = 8 := by rw [upTo_length _ (by rw [be8_length]; omega), be8_length]
            obtain ⟨x0, ex⟩ : ∃ x, (upTo (be8 d.length) i)[i]? = some x := ⟨_, List.getElem?_eq_getElem (by rw [ul]; exact hlt)⟩
            have cE : wr.cell? ⟨E, i, none⟩ = some (B8 x0) := hBE.cell (by simp [bs, ex])
            have fE := hBE.free (i := i)
            have q1 : (0 : Int) ≤ 56 - 8 * (i : Int) := by omega
            have q2 : 56 - 8 * (i : Int) ≤ 64 := by omega
            have q3 : IntKind.i64.wrap (56 - 8 * (i : Int)) = 56 - 8 * i := IntWalk.i64_in _ (by omega)
            have q4 : (56 - 8 * (i : Int)).toNat = 56 - 8 * i := by omega
            have q5 : IntKind.i64.wrap (8 * (i : Int)) = 8 * i := IntWalk.i64_in _ (by omega)
            have q6 : 8 * (i : Int) ≤ 56 := by omega
            have UL := Lib.hid ul
            clear ul ex
            go_wp2_with fail
            have hv := be8_value (T8 := T8) hlt HT8.out
            rw [hv]
            refine ⟨⟨i + 1, by omega, by go_num, hH.keep ((Keep.refl [E] wr).set (Or.inl (by simp)) _) (by simpa using hEC.symm), hRr.setOther (by simpa using hER.symm) _, ?_, hkr.set (Or.inr hEw) _⟩, by simp [intOf]; omega⟩
            have := hBE.set i (B8 (UInt8.ofNat (8 * d.length / 2 ^ (56 - 8 * i))))
            rw [← bs_set, upTo_set (be8_get hlt)] at this
            exact this
          · have hii : (i : Int) = 8 := by omega
            simp only [hii]
            obtain rfl : i = 8 := by omega
            clear hii hlt hi
            have hup : upTo (be8 d.length) 8 = be8 d.length := by have := upTo_all (be8 d.length); rwa [be8_length] at this
            rw [hup] at hBE
            have hpad : D ++ be8 d.length = pad d := by rw [← HD.out, pad]; simp
            have hCl : C < wr.heap.size := by obtain ⟨_, _, _, _, _, hx, _⟩ := hH; exact hx.lt
            go_upto_region 16 with (first | (go_at_call 102; refine (write_any C D (be8 d.length) 8 8 (some ⟨E, 0, none⟩) wr hH (be8_length _) (by omega) (by omega) (Rd.of_blk hBE 0 (fun k v hv => by rw [Nat.zero_add]; exact hv)) (fun _ => hEC)).mono ?_; rintro e w4 ⟨rfl, hH4, hk4⟩) | fail)
            rw [hpad] at hH4
            have hR4 := hRr.keep hk4 (by simpa using hRC)
            have hkw4 : Keep [] w w4 := hkr.trans hk4 (by simpa using hCw)
            obtain ⟨b5, st5, bl5, h5, tot5, hB5, hT5⟩ := hH4
            have hpl : pad d ≠ [] := by intro e; have := congrArg List.length e; rw [pad_length] at this; simp at this; have := padz_at d.length; omega
            have hst5 : st5 = absorb (pad d) ((pad d).length / 64) := by
              cases b5 with
              | true => exact (hT5.begun rfl).stE
              | false => exact absurd (hT5.zero rfl).1 hpl
            have hCl4 := hB5.lt
            have hRl4 := hR4.lt
            obtain ⟨O, hO⟩ : ∃ O, O = w4.heap.size := ⟨_, rfl⟩
            have hOC : O ≠ C := by omega
            have hOR : O ≠ R := by omega
            have hOw : w.heap.size ≤ O := by have := hkw4.size; omega
            have hrange : (w4.alloc (.cells (bs (List.replicate 32 0)).toArray 25)).rangeAt C 1 (u32s st5) := by
              intro j v hv
              obtain ⟨x, hx, rfl⟩ : ∃ x, st5[j]? = some x ∧ v = .int .u32 x := by
                simp only [u32s, List.getElem?_map, Option.map_eq_some_iff] at hv
                obtain ⟨x, h1, h2⟩ := hv; exact ⟨x, h1, h2.symm⟩
              exact (hB5.alloc _).cell (hash_word hx)
            have hs8 := hT5.st8
            have HST5 := Lib.hid hst5
            clear hBE hH hRr hkr hk4 hT5 hst5
            go_wp2_with (first | (refine wpList_load_mid rfl 147 (.tmp 40) rfl C 1 rfl (u32s st5) _ hrange Try.underlying147 rfl (by rw [u32s, List.length_map, hs8]; rfl) ?_) | fail)
            rw [← hO]
            go_loopw [42] (fun v wx => ∃ i, i ≤ 8 ∧ v = .int .i64 (i : Nat) ∧ Blk wx R (bs (List.replicate 32 0)).toArray 25 ∧ Blk wx O (bs (upTo (outB st5) (4 * i))).toArray 25 ∧ Keep [] w wx) (fun v _ => 8 - (intOf v).toNat)
            case atStart => exact ⟨0, by omega, rfl, hR4.alloc _, by rw [hO, Nat.mul_zero, upTo_none, outB_length, hs8]; exact Blk.new w4 _ 25, hkw4.alloc _⟩
            case round =>
              clear hRl4 hCl4 hkw4 hrange hB5 hO hR4
              obtain ⟨i, hi, rfl, hRr, hBO, hkr⟩ := hrel
              by_cases hlt : i < 8
              · obtain ⟨x, hx⟩ : ∃ x, st5[i]? = some x := ⟨_, List.getElem?_eq_getElem (by omega)⟩
                have ol : (outB st5).length = 32 := by rw [outB_length, hs8]
                have ul : (upTo (outB st5) (4 * i)).length = 32 := by rw [upTo_length _ (by omega), ol]
                obtain ⟨y0, e0⟩ : ∃ x, (upTo (outB st5) (4 * i))[4 * i]? = some x := ⟨_, List.getElem?_eq_getElem (by rw [ul]; omega)⟩
                obtain ⟨y1, e1⟩ : ∃ x, (upTo (outB st5) (4 * i))[4 * i + 1]? = some x := ⟨_, List.getElem?_eq_getElem (by rw [ul]; omega)⟩
                obtain ⟨y2, e2⟩ : ∃ x, (upTo (outB st5) (4 * i))[4 * i + 2]? = some x := ⟨_, List.getElem?_eq_getElem (by rw [ul]; omega)⟩
                obtain ⟨y3, e3⟩ : ∃ x, (upTo (outB st5) (4 * i))[4 * i + 3]? = some x := ⟨_, List.getElem?_eq_getElem (by rw [ul]; omega)⟩
                have c0 : wr.cell? ⟨O, 4 * i, none⟩ = some (B8 y0) := hBO.cell (by simp [bs, e0])
                have c1 : wr.cell? ⟨O, 4 * i + 1, none⟩ = some (B8 y1) := hBO.cell (by simp [bs, e1])
                have c2 : wr.cell? ⟨O, 4 * i + 2, none⟩ = some (B8 y2) := hBO.cell (by simp [bs, e2])
                have c3 : wr.cell? ⟨O, 4 * i + 3, none⟩ = some (B8 y3) := hBO.cell (by simp [bs, e3])
                have f0 := hBO.free (i := 4 * i)
                have f1 := hBO.free (i := 4 * i + 1)
                have f2 := hBO.free (i := 4 * i + 2)
                have f3 := hBO.free (i := 4 * i + 3)
                have hix : ∀ W, (Instr.index 147 (.agg (u32s st5).toArray) (.int .i64 i)).run Try.prog W = .ok (.int .u32 x) W := fun W => run_index49 W _ i _ hlt (by simp [u32s, hx])
                have OL := Lib.hid ol
                have UL := Lib.hid ul
                have HX := Lib.hid hx
                clear ol ul e0 e1 e2 e3
                go_wp2_with fail
                obtain ⟨g0, g1, g2, g3⟩ := outB_get HX.out
                have hOR' : R ≠ O := hOR.symm
                refine ⟨⟨i + 1, by omega, by go_num, (((hRr.setOther hOR' _).setOther hOR' _).setOther hOR' _).setOther hOR' _, ?_, (((hkr.set (Or.inr hOw) _).set (Or.inr hOw) _).set (Or.inr hOw) _).set (Or.inr hOw) _⟩, by simp [intOf]; omega⟩
                rw [ofNat_B8, ofNat_B8, ofNat_B8, ofNat_B8]
                have := (((hBO.set (4 * i) (B8 (UInt8.ofNat (x / 2 ^ 24 % 256).toNat))).set (4 * i + 1) (B8 (UInt8.ofNat (x / 2 ^ 16 % 256).toNat))).set (4 * i + 2) (B8 (UInt8.ofNat (x / 2 ^ 8 % 256).toNat))).set (4 * i + 3) (B8 (UInt8.ofNat (x % 256).toNat))
                rw [← bs_set, upTo_set g0, ← bs_set, upTo_set g1, ← bs_set, upTo_set g2, ← bs_set, upTo_set g3] at this
                rw [show 4 * (i + 1) = 4 * i + 3 + 1 by omega]
                exact this
              · obtain rfl : i = 8 := by omega
                have hall : upTo (outB st5) (4 * 8) = sha d := by
                  have := upTo_all (outB st5)
                  rw [outB_length, hs8] at this
                  rw [this, HST5.out]; rfl
                rw [hall] at hBO
                have hsz : (bs (sha d)).toArray.size = 32 := by simp [sha_length]
                have hall1 : (bs (sha d)).toArray.all (·.oneCell') = true := all_oneCell_toArray (bs_one _)
                clear hall
                go_wp2_with (first
                  | (refine wpList_load_row rfl 25 (.tmp 7) rfl O rfl 25 (bs (sha d)).toArray (0, 0) _ hBO Try.underlying25 rfl (by rw [hsz]; rfl) ?_)
                  | (refine wpList_store_row rfl 25 (.tmp 2) (.tmp 73) rfl R (bs (sha d)).toArray rfl rfl 25 (bs (List.replicate 32 0)).toArray hRr (by rw [hsz]; rfl) (by rw [hsz]; rfl) hall1 ?_)
                  | fail)
                exact bodyPost_ret (results_cell_row rfl _ _ R 25 (bs (sha d)).toArray (0, 0) _ rfl (hRr.setRow _) Try.underlying25 rfl (by rw [hsz]; rfl)) rfl ⟨rfl, hkr.setRow (Or.inr hRw) _⟩
      · have hq1 : ¬ (h' : Int) = 56 := by omega
        have hq2 : ((h' : Int) == 56) = false := by simpa using hq1
        have hq3 : ((h' : Int) != 56) = true := by simpa using hq1
        have HH := Lib.hid hH
        have HEE := Lib.hid hE
        clear hE hlen hH
        go_wp2_with (first | (go_at_call 102; refine (write_any C (d ++ [128] ++ List.replicate z 0) [0] 1 1 (some ⟨wr.heap.size, 0, none⟩) _ (HH.out.keep ((Keep.refl [] wr).alloc _) (by simp)) rfl (by omega) (by omega) (Rd.made wr _ 5 (0, 0) _ _ rfl rfl) (fun _ => by show wr.heap.size ≠ C; omega)).mono ?_; rintro e w3 ⟨rfl, hH3, hk3⟩) | fail)
        have hH4 : HashAt w3 C (d ++ [128] ++ List.replicate (z + 1) 0) := by
          rw [List.replicate_succ', ← List.append_assoc]; exact hH3
        refine ⟨⟨z + 1, ?_, hH4, (hRr.alloc (.cells #[Value.int .u8 0] 5)).keep hk3 (by simpa using hRC), (hkr.alloc _).trans hk3 (by simpa using hCw)⟩, ?_⟩
        · have := padz_at d.length
          have := HEE.out
          rcases Nat.lt_or_ge z (padz d.length) with hlt | hge
          · exact hlt
          · exact absurd (by omega) hq
        · rw [hH4.fill, HH.out.fill]
          have := HEE.out
          simp only [List.length_append, List.length_replicate, List.length_cons, List.length_nil]
          omega
end Go.Proofs.Ytpocegdlobnhaaa.Dig

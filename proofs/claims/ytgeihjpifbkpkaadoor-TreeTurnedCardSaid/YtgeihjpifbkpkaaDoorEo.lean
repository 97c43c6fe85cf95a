/- A tree's bytes; Encode of the law. -/
import Derived.Test.YtgeihjpifbkpkaaDoorAp
set_option linter.unusedVariables false
set_option linter.unusedSimpArgs false
namespace Go.Proofs.YtgeihjpifbkpkaaDoor
open Go.RowKit

def entB (x : Ent) : List UInt8 := [UInt8.ofNat x.kind.toNat, UInt8.ofNat x.name.size] ++ (x.name.data.toList ++ x.id)
def encR (l : List Ent) : List UInt8 := [84, UInt8.ofNat l.length] ++ l.flatMap entB
def encTo (l : List Ent) (i : Nat) : List UInt8 := [84, UInt8.ofNat l.length] ++ (l.take i).flatMap entB
theorem encTo_next {l : List Ent} {i : Nat} {x : Ent} (h : l[i]? = some x) : encTo l (i + 1) = encTo l i ++ entB x := by
  unfold encTo; rw [List.take_add_one, h, List.flatMap_append]; simp
theorem encTo_end (l : List Ent) : encTo l l.length = encR l := by unfold encTo encR; rw [List.take_length]
theorem name_len (s : ByteArray) : s.data.toList.length = s.size := Array.length_toList
theorem entB_len (x : Ent) : (entB x).length = 34 + x.name.size := by simp [entB, x.li, name_len]; omega
theorem nameB_size {s : ByteArray} (h : nameB s = true) : s.size ≤ 32 := by
  unfold nameB at h
  simp only [Bool.and_eq_true, decide_eq_true_eq] at h
  exact h.1.2.1
structure OkE (x : Ent) : Prop where
  nm : nameB x.name = true
  sz : x.name.size ≤ 32
  k1 : 1 ≤ x.kind
  k3 : x.kind ≤ 3
theorem okE_of {x : Ent} (h : okE x = true) : OkE x := by
  unfold okE at h
  simp only [Bool.and_eq_true, decide_eq_true_eq] at h
  exact ⟨h.1, nameB_size h.1, h.2.1, h.2.2⟩
theorem isT_32 {l : List Ent} (h : isT l = true) : l.length ≤ 32 := by
  unfold isT at h; simp at h; exact h.1
theorem isT_at {l : List Ent} (h : isT l = true) {i : Nat} {x : Ent} (hx : l[i]? = some x) : OkE x := by
  have hi := (List.getElem?_eq_some_iff.1 hx).1
  refine okE_of ?_
  cases ho : okE x with
  | true => rfl
  | false => rw [isT_no (stepE_no hx ho) hi] at h; cases h
theorem flat_le : ∀ {l : List Ent}, (∀ x ∈ l, x.name.size ≤ 32) → (l.flatMap entB).length ≤ l.length * 66
  | [], _ => by simp
  | x :: l, h => by
    have ih := flat_le (l := l) (fun y hy => h y (List.mem_cons_of_mem _ hy))
    have := h x List.mem_cons_self
    rw [List.flatMap_cons, List.length_append, entB_len, List.length_cons]; omega
theorem encTo_len {l : List Ent} (h : isT l = true) (i : Nat) : (encTo l i).length ≤ 2114 := by
  have h32 := isT_32 h
  have hs : ∀ x ∈ l.take i, x.name.size ≤ 32 := fun x hx => by
    obtain ⟨j, hj, e⟩ := List.mem_iff_getElem.1 (List.mem_of_mem_take hx)
    exact (isT_at h (by rw [List.getElem?_eq_getElem hj, e])).sz
  have h1 := flat_le hs
  have h2 : (l.take i).length ≤ 32 := by rw [List.length_take]; omega
  unfold encTo
  rw [List.length_append]
  simp only [List.length_cons, List.length_nil]
  omega
/-- What Encode gives: bytes, a code. -/
def encX (l : List Ent) : List UInt8 := if isT l = true then encR l else []
def encC (l : List Ent) : Int := if isT l = true then 0 else 70
def GiveE (w : World) (xs : List UInt8) (code : Int) (e : Ending) (w' : World) : Prop :=
  ∃ (a' : Option Addr) (n' c' : Nat), e = .returned (.tuple #[.slice a' n' c', .int .i64 code]) ∧ xs.length = n' ∧ Sl w' 5 1 (.slice a' n' c') n' (bs xs) ∧ Fr w [] (blks (.slice a' n' c')) ∧ n' ≤ 2114 ∧ Keep [] w w'
theorem GiveE.none {w w' : World} {code : Int} (k : Keep [] w w') : GiveE w [] code (.returned (.tuple #[.slice none 0 0, .int .i64 code])) w' :=
  ⟨Option.none, 0, 0, rfl, rfl, Sl.nil _ _ _, by intro b hb; simp [blks, Value.ownBlock] at hb, by omega, k⟩
theorem Rd.range {w : World} {b o : Nat} {cs : List Value} (h : w.rangeAt b o cs) : Rd w (some ⟨b, o, none⟩) cs := Or.inr ⟨b, o, rfl, fun k v hv => h k v hv⟩
theorem two_cells (k s : Nat) (hk : k < 256) (hs : s < 256) : bs [UInt8.ofNat k, UInt8.ofNat s] = [.int .u8 (k : Int), .int .u8 (s : Int)] := by
  simp [bs, B8]; omega

set_option maxHeartbeats 4000000 in
set_option maxRecDepth 100000 in
theorem refEncode_any (a : Option Addr) (n c : Nat) (l : List Ent) (w : World) (hx : EsIn w a n c l) :
    Calls Tryd.prog 15 #[.slice a n c] w (GiveE w (encX l) (encC l)) := by
  have hl := hx.hlen
  have CI := is_any a n c l w hx
  cases hv : isT l with
  | false =>
    rw [hv] at CI
    have HC := Lib.hid CI
    have e1 : encX l = [] := by simp [encX, hv]
    have e2 : encC l = 70 := by simp [encC, hv]
    rw [e1, e2]
    clear CI hv e1 e2 hl
    go_enter Tryd.func15, Tryd.ntmps15
    go_wp2_with (first
      | (go_at_call 23; refine HC.out.mono ?_; rintro e w1 ⟨rfl, k1⟩)
      | fail)
    go_returns
    exact GiveE.none k1
  | true =>
    rw [hv] at CI
    have HC := Lib.hid CI
    have e1 : encX l = encR l := by simp [encX, hv]
    have e2 : encC l = 0 := by simp [encC, hv]
    rw [e1, e2]
    have h32 := isT_32 hv
    have n32 : n ≤ 32 := by omega
    have HV := Lib.hid hv
    have HL := Lib.hid hl
    obtain ⟨N, hN, hso⟩ := size37
    have HN := Lib.hid hN
    have wn : IntKind.u8.wrap (n : Int) = n := by simp only [IntKind.wrap_u8]; omega
    clear CI hv e1 e2 hl h32 hN
    go_enter Tryd.func15, Tryd.ntmps15
    go_upto_region 5 with (first
      | (go_at_call 23; refine HC.out.mono ?_; rintro e w1 ⟨rfl, k1⟩)
      | fail)
    have B0 : Blk (w1.alloc (.cells #[.int .u8 84, .int .u8 (n : Int)] 5)) w1.heap.size #[.int .u8 84, .int .u8 (n : Int)] 5 := Blk.new _ _ _
    have k2 : Keep [] w (w1.alloc (.cells #[.int .u8 84, .int .u8 (n : Int)] 5)) := k1.alloc _
    have S0 : Sl (w1.alloc (.cells #[.int .u8 84, .int .u8 (n : Int)] 5)) 5 1 (.slice (some ⟨w1.heap.size, 0, none⟩) 2 2) 2 (bs (encTo l 0)) := by
      have h := Sl.made w1 5 1 #[.int .u8 84, .int .u8 (n : Int)] 2 _ rfl rfl (by simp [maxLen])
      have e : bs (encTo l 0) = (#[.int .u8 84, .int .u8 (n : Int)] : Array Value).toList := by
        unfold encTo
        rw [List.take_zero, List.flatMap_nil, List.append_nil, HL.out]
        exact two_cells 84 n (by omega) (by omega)
      rw [e]; exact h
    have f0 : Fr w [] (blks (.slice (some ⟨w1.heap.size, 0, none⟩) 2 2)) := fun b hb => by
      have e : b = w1.heap.size := by simpa [blks, Value.ownBlock] using hb
      right; have := k1.size; omega
    obtain ⟨W2, hW2⟩ : ∃ W, w1.alloc (.cells #[.int .u8 84, .int .u8 (n : Int)] 5) = W := ⟨_, rfl⟩
    obtain ⟨p0, hp0⟩ : ∃ P, w1.heap.size = P := ⟨_, rfl⟩
    rw [hW2] at k2 S0 ⊢
    rw [hp0] at S0 f0 ⊢
    clear hW2 hp0 B0 k1
    go_loopw [4, 5, 6] (fun v4 v5 _ wr => ∃ (i m : Nat) (va : Option Addr) (vc : Nat), i ≤ n ∧ v5 = .int .i64 (i : Nat) ∧ v4 = .slice va m vc ∧ Hid ((encTo l i).length = m) ∧ Sl wr 5 1 (.slice va m vc) m (bs (encTo l i)) ∧ Fr w [] (blks (.slice va m vc)) ∧ Keep [] w wr) (fun _ v5 _ _ => n - (intOf v5).toNat)
    case atStart => exact ⟨0, 2, _, _, by omega, rfl, rfl, Lib.hid (by simp [encTo]), S0, f0, k2⟩
    case round =>
      clear S0 f0 k2
      obtain ⟨i, m, va, vc, hi, rfl, rfl, HM, hS, hF, kk⟩ := hrel
      have hm : m ≤ 2114 := by rw [← HM.out]; exact encTo_len HV.out i
      by_cases hlt : i < n
      · obtain ⟨x, b, off, ex, rfl, rx⟩ := (hx.keep kk (by simp)).at hlt
        have ok := isT_at HV.out ex
        have i0 : (0 : Int) ≤ i := by omega
        have i1 : (i : Int) < n := by omega
        have HEX := Lib.hid (encTo_next ex)
        rw [HN.out] at rx
        have HX34 := Lib.hid (show x.cells.toArray.size = 34 by simpa using x.len)
        obtain ⟨d, hd⟩ : ∃ d, encTo l i = d := ⟨_, rfl⟩
        rw [hd] at hS HM
        have HD := Lib.hid hd
        clear ex hd
        go_upto_region 8 with (first
          | (refine wpList_load_mid rfl 37 (.tmp 22) rfl b (off + i * N) rfl x.cells _ rx Tryd.underlying37 rfl (hi37 x) ?_)
          | (refine wpList_store_last rfl 37 (.tmp 6) (.tmp 23) rfl _ _ x.cells.toArray rfl rfl rfl (by rw [HX34.out]; rfl) (by rw [HX34.out]; rfl) (ent_all x) ?_)
          | fail)
        have BX : Blk (wr.alloc (.cells x.cells.toArray 37)) wr.heap.size x.cells.toArray 37 := Blk.new _ _ _
        have kz : Keep [] wr (wr.alloc (.cells x.cells.toArray 37)) := (Keep.refl [] wr).alloc _
        obtain ⟨W4, hW4⟩ : ∃ W, wr.alloc (.cells x.cells.toArray 37) = W := ⟨_, rfl⟩
        obtain ⟨px, hpx⟩ : ∃ P, wr.heap.size = P := ⟨_, rfl⟩
        have hpS : ∀ b ∈ blks (.slice va m vc), b ≠ px := fun b hb => by have := hS.lt b hb; omega
        have hs4 : W4.heap.size = px + 1 := by rw [← hW4, ← hpx]; simp
        rw [hW4] at kz BX ⊢
        rw [hpx] at BX ⊢
        clear hW4 hpx rx
        have kk4 := kk.trans' kz
        have rX := rangeAt_of_blk BX
        have S4 := hS.keep kz (by simp)
        obtain ⟨kd, hkd⟩ : ∃ k : Nat, x.kind = k := ⟨x.kind.toNat, by have := ok.k1; omega⟩
        obtain ⟨nm, hnm⟩ : ∃ s, x.name = s := ⟨_, rfl⟩
        have cn := rangeAt_name rX
        have ck := rangeAt_kind rX
        rw [Nat.zero_add, hkd] at ck
        rw [hnm] at cn
        have hkd3 : kd ≤ 3 := by have := ok.k3; omega
        have hsz : nm.size ≤ 32 := by rw [← hnm]; exact ok.sz
        have wk : IntKind.u8.wrap (kd : Int) = kd := by simp only [IntKind.wrap_u8]; omega
        have ws : IntKind.u8.wrap (nm.size : Int) = nm.size := by simp only [IntKind.wrap_u8]; omega
        have htc := two_cells kd nm.size (by omega) (by omega)
        have HE := Lib.hid (show entB x = [UInt8.ofNat kd, UInt8.ofNat nm.size] ++ (nm.data.toList ++ x.id) by rw [entB, hkd, hnm]; simp)
        have HTC := Lib.hid htc
        clear htc hkd hnm ok kz hS
        go_upto_region 9 with (first
          | (at_builtin; go_must (refine wpList_appendN rfl (.tmp 24) (.tmp 32) 26 rfl 5 (.int .u8 0) 1 1 Tryd.underlying26 info5 rfl (by omega) (.slice va m vc) m (bs d) rfl (S4.keep ((Keep.refl [] W4).alloc _) (by simp)) (some ⟨px + 1, 0, none⟩) 2 2 (bs [UInt8.ofNat kd, UInt8.ofNat nm.size]) rfl rfl (by simp) (Rd.of_blk (vs' := [.int .u8 (kd : Int), .int .u8 (nm.size : Int)]) (Blk.new' W4 _ 5 hs4.symm) 0 (fun k v h => by rw [Nat.zero_add, ← HTC.out]; exact h)) (bs_one _) (by simp only [maxLen]; omega) (by omega) ?_; intro a6 c6 w6 hs6 hk6 hf6))
          | fail)
        have F6 : Fr W4 (blks (.slice va m vc)) (blks (.slice a6 (m + 2) c6)) := fun b hb => by
          rcases hf6 b hb with h | h
          · exact Or.inl h
          · right; simp at h; omega
        have kA : Keep (blks (.slice va m vc)) W4 w6 := (((Keep.refl [] W4).alloc _).mono (T := blks (.slice va m vc)) (by simp)).trans hk6 (fun b hb => Or.inl hb)
        have BX6 := BX.keep kA (fun hb => hpS px hb rfl)
        have rX6 := rangeAt_of_blk BX6
        have cn6 := kA.cell cn (fun hb => hpS px hb rfl)
        have hF6 : Fr w [] (blks (.slice a6 (m + 2) c6)) := hF.trans F6 kk4.size
        have kk6 : Keep [] w w6 := kk4.trans kA (fun b hb => by rcases hF b hb with h | h; cases h; exact Or.inr h)
        have hpS6 : ∀ b ∈ blks (.slice a6 (m + 2) c6), b ≠ px := fun b hb => by
          rcases F6 b hb with h | h
          · exact hpS b h
          · omega
        clear hf6 hk6 F6 S4 cn ck
        go_upto_region 10 with (first
          | (at_builtin; go_must (refine wpList_appendT rfl (.tmp 34) (.tmp 36) 26 9 rfl 5 Tryd.underlying26 Tryd.underlying9 info5 (.slice a6 (m + 2) c6) (m + 2) _ rfl hs6 nm rfl (by simp only [maxLen]; omega) (by omega) ?_; intro a7 c7 w7 hs7 hk7 hf7))
          | fail)
        have BX7 := BX6.keep hk7 (fun hb => hpS6 px hb rfl)
        have rX7 := rangeAt_of_blk BX7
        have hF7 : Fr w [] (blks (.slice a7 (m + 2 + nm.size) c7)) := hF6.trans hf7 kk6.size
        have kk7 : Keep [] w w7 := kk6.trans hk7 (fun b hb => by rcases hF6 b hb with h | h; cases h; exact Or.inr h)
        have rid := Rd.range (rangeAt_id rX7)
        clear hs6 hk7 hf7
        go_upto_region 6 with (first
          | (at_builtin; go_must (refine wpList_appendN rfl (.tmp 38) (.tmp 40) 26 rfl 5 (.int .u8 0) 1 1 Tryd.underlying26 info5 rfl (by omega) (.slice a7 (m + 2 + nm.size) c7) (m + 2 + nm.size) _ rfl hs7 (some ⟨px, 2, none⟩) 32 32 (bs x.id) rfl (by rw [bs_length, x.li]) (by simp) (by simpa using rid) (bs_one _) (by simp only [maxLen]; omega) (by omega) ?_; intro a8 c8 w8 hs8 hk8 hf8))
          | fail)
        have hF8 : Fr w [] (blks (.slice a8 (m + 2 + nm.size + 32) c8)) := hF7.trans hf8 kk7.size
        have kk8 : Keep [] w w8 := kk7.trans hk8 (fun b hb => by rcases hF7 b hb with h | h; cases h; exact Or.inr h)
        clear hs7 hk8 hf8
        go_wp2_with fail
        have hn1 : encTo l (i + 1) = d ++ ([UInt8.ofNat kd, UInt8.ofNat nm.size] ++ (nm.data.toList ++ x.id)) := by rw [HEX.out, HD.out, HE.out]
        refine ⟨⟨i + 1, m + 2 + nm.size + 32, a8, c8, by omega, by go_num, rfl, Lib.hid ?_, ?_, hF8, kk8⟩, by simp [intOf]; omega⟩
        · rw [hn1, List.length_append, HM.out]; simp only [List.length_append, List.length_cons, List.length_nil, x.li, name_len]; omega
        · rw [hn1]
          have := hs8
          simpa [bs_append, List.append_assoc] using this
      · obtain rfl : i = n := by omega
        have hE := encTo_end l
        rw [HL.out] at hE
        rw [hE] at hS HM
        have HE := Lib.hid (And.intro HM.out (And.intro hS hF))
        go_wp2_with fail
        go_returns
        exact ⟨va, m, vc, rfl, HE.out.1, HE.out.2.1, HE.out.2.2, hm, kk⟩
end Go.Proofs.YtgeihjpifbkpkaaDoor

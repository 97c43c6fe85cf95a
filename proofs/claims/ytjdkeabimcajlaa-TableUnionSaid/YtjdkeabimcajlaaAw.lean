/- awake: the program's own answers at one small table. -/
import Derived.Test.YtjdkeabimcajlaaBv
import Derived.Test.YtjdkeabimcajlaaJo
import Derived.Test.YtjdkeabimcajlaaEo
import Derived.Test.YtjdkeabimcajlaaId
set_option linter.unusedVariables false
set_option linter.unusedSimpArgs false
namespace Go.Proofs.Ytjdkeabimcajlaa
open Go.RowKit

def oneA : List UInt8 := 1 :: List.replicate 31 0
def oneR : Res := ⟨oneA, List.replicate 32 0, 7, rfl, rfl⟩
def badR : Res := ⟨oneA, List.replicate 32 0, 256, rfl, rfl⟩
def nineR : Res := ⟨oneA, List.replicate 32 0, 9, rfl, rfl⟩
theorem one_cells : (Try.zeroCells39.setIfInBounds 0 (.int .u8 1)).setIfInBounds 64 (.int .i64 7) = oneR.cells.toArray := by rfl
theorem bad_cells : oneR.cells.toArray.setIfInBounds 64 (.int .i64 256) = badR.cells.toArray := by rfl
theorem v_one : validR [oneR] = true := by decide
theorem v_two : validR [oneR, badR] = false := by decide
theorem v_nine : validR [nineR] = true := by decide
theorem fit_nine : fitR nineR = true := by decide
theorem giv_nine : withC [oneR] nineR = 0 ∧ givR [oneR] nineR = [nineR] := by decide
theorem enc_is : encR [oneR] = 1 :: resB oneR := by rw [encR, show ([oneR] : List Res).length = 1 from rfl, numB_small (by omega)]; simp
theorem enc_one : (encR [oneR]).length = 66 := by rw [enc_is]; rfl
theorem enc_at : (encR [oneR])[0]? = some 1 ∧ (encR [oneR])[1]? = some 1 ∧ (encR [oneR])[65]? = some 7 := by rw [enc_is]; exact ⟨rfl, rfl, rfl⟩
theorem built_nine : Try.prog.built 39 [(0, .agg (bs oneA).toArray), (2, .int .i64 9)] = some nineR.cells.toArray := by kernel_rfl
theorem wpList_buildE {P : Program} {ops : Array Oper} {rest : List Oper} {o : Oper} {a : Act} {w : World} {Q : Exit → Act → World → Prop} (hg : o.guard = none) (t : TypeId) (i j : Nat) (x y : Operand) (ho : o.op = .build t #[(i, x), (j, y)]) (u v : Value) (hx : a.eval x = u) (hy : a.eval y = v) (cells : Array Value) (hb : P.built t [(i, u), (j, v)] = some cells)
    (h : wpList P ops Q rest (a.put o.dst (.agg cells)) w) : wpList P ops Q (o :: rest) a w := by
  have e : ((#[(i, x), (j, y)] : Array (Nat × Operand)).map fun (i, x) => (i, a.eval x)).toList = [(i, u), (j, v)] := by simp [hx, hy]
  refine wpList_build hg t #[(i, x), (j, y)] ho (by rw [e, hb]; rfl) ?_
  rw [e, hb]; exact h
theorem lit1 (w : World) (x : Res) : RsIn (w.alloc (.cells x.cells.toArray 39)) (some ⟨w.heap.size, 0, none⟩) 1 1 [x] := by
  have := RsIn.of_blk (w := w.alloc (.cells x.cells.toArray 39)) (g := w.heap.size) (n := 1) (c := 1) (l := [x]) (m := []) (by rw [List.append_nil, cellsOf_one]; exact Blk.new w _ 39) rfl (by omega) (by omega) (by omega)
  exact this
theorem lit2 (w : World) (x y : Res) : RsIn (w.alloc (.cells (x.cells.toArray ++ y.cells.toArray) 39)) (some ⟨w.heap.size, 0, none⟩) 2 2 [x, y] := by
  have e : x.cells.toArray ++ y.cells.toArray = (cellsOf ([x, y] ++ [])).toArray := by simp [cellsOf]
  rw [e]
  exact RsIn.of_blk (Blk.new w _ 39) rfl (by omega) (by omega) (by omega)
theorem join_three : joinC 3 [oneR] [nineR] = 150 ∧ joinT 3 [oneR] [nineR] = [] ∧ joinI 3 [oneR] [nineR] = [oneA] := by
  have hK : joinK [oneR] [nineR] = [oneA] := by
    rw [joinK_eq (by decide) (by decide), joinK_nil, if_neg (by decide)]; rfl
  obtain ⟨g1, g2, g3⟩ := join_clash (how := 3) (l := [oneR]) (m := [nineR]) (Or.inr (Or.inr rfl)) ⟨v_one, v_nine⟩ ⟨rfl, by rw [hK]; simp⟩
  exact ⟨g1, g2, by rw [g3, hK]⟩
theorem join_four (l m : List Res) : joinC 4 l m = 1 ∧ joinT 4 l m = [] ∧ joinI 4 l m = [] := join_how (by unfold knownHow; omega)
theorem keep_new (w : World) (o : Obj) : Keep [] w (w.alloc o) := (Keep.refl [] w).alloc o
theorem with9 (w : World) : Calls Try.prog 22 #[.slice (some ⟨w.heap.size, 0, none⟩) 1 1, .agg nineR.cells.toArray] (w.alloc (.cells oneR.cells.toArray 39)) (Give (w.alloc (.cells oneR.cells.toArray 39)) [nineR] 0) := by
  have h := with_any _ 1 1 [oneR] nineR _ (lit1 w oneR)
  rw [giv_nine.1, giv_nine.2] at h
  exact h
theorem join3 (w : World) (a c : _) (h : RsIn (w.alloc (.cells oneR.cells.toArray 39)) a 1 c [nineR]) : Calls Try.prog 25 #[.slice (some ⟨w.heap.size, 0, none⟩) 1 1, .slice a 1 c, .int .i64 3] (w.alloc (.cells oneR.cells.toArray 39)) (GiveJ (w.alloc (.cells oneR.cells.toArray 39)) [] [oneA] 150) := by
  have h := join_any _ a 1 1 1 c [oneR] [nineR] 3 _ (lit1 w oneR) h
  rw [join_three.1, join_three.2.1, join_three.2.2] at h
  exact h
theorem join4 (w : World) (a b n c m d : _) (l k : List Res) (hl : RsIn w a n c l) (hk : RsIn w b m d k) : Calls Try.prog 25 #[.slice a n c, .slice b m d, .int .i64 4] w (GiveJ w [] [] 1) := by
  have h := join_any a b n c m d l k 4 w hl hk
  rw [(join_four l k).1, (join_four l k).2.1, (join_four l k).2.2] at h
  exact h
theorem join4b (w : World) : Calls Try.prog 25 #[.slice (some ⟨w.heap.size, 0, none⟩) 1 1, .slice (some ⟨w.heap.size + 1, 0, none⟩) 1 1, .int .i64 4] ((w.alloc (.cells badR.cells.toArray 39)).alloc (.cells oneR.cells.toArray 39)) (GiveJ ((w.alloc (.cells badR.cells.toArray 39)).alloc (.cells oneR.cells.toArray 39)) [] [] 1) := by
  have h2 := lit1 (w.alloc (.cells badR.cells.toArray 39)) oneR
  have e : (w.alloc (.cells badR.cells.toArray 39)).heap.size = w.heap.size + 1 := by simp
  rw [e] at h2
  exact join4 _ _ _ _ _ _ _ _ _ ((lit1 w badR).keep (keep_new _ _) (by simp)) h2
theorem valid_nil (w : World) : Calls Try.prog 17 #[.slice none 0 0] w fun e w' => e = .returned (.bool true) ∧ Keep [] w w' := by
  have h := valid_any none 0 0 [] w ⟨rfl, Or.inl rfl, by omega, fun _ => rfl, by omega, by omega⟩
  rwa [show validR [] = true by decide] at h
theorem cells_append (l m : List Res) : (cellsOf l).toArray ++ (cellsOf m).toArray = (cellsOf (l ++ m)).toArray := by rw [cellsOf_append]; simp
theorem RsIn.lit {w : World} {l : List Res} {n : Nat} (h : n = l.length) (hn : n ≤ 1000) : RsIn (w.alloc (.cells (cellsOf l).toArray 39)) (some ⟨w.heap.size, 0, none⟩) n n l := by
  subst h
  exact RsIn.of_blk (m := []) (by rw [List.append_nil]; exact Blk.new w _ 39) rfl (Nat.le_refl _) (by omega) (by omega)

set_option maxHeartbeats 2000000 in
set_option maxRecDepth 100000 in
theorem awake_any (w : World) : Calls Try.prog 21 #[] w fun e w' => e = .returned (.bool true) ∧ Keep [] w w' := by
  obtain ⟨T, hT⟩ : ∃ T, w.heap.size = T := ⟨_, rfl⟩
  obtain ⟨W, hW⟩ : ∃ W, ((w.alloc (.cells Try.zeroCells39 39)).setCell ⟨T, 0, none⟩ (.int .u8 1)).setCell ⟨T, 64, none⟩ (.int .i64 7) = W := ⟨_, rfl⟩
  have B0 : Blk (w.alloc (.cells Try.zeroCells39 39)) T Try.zeroCells39 39 := by rw [← hT]; exact Blk.new w _ 39
  have BT : Blk W T oneR.cells.toArray 39 := by rw [← hW, ← one_cells]; exact (B0.set 0 _).set 64 _
  have kW : Keep [] w W := by
    rw [← hW]
    exact (((Keep.refl [] w).alloc _).set (a := ⟨T, 0, none⟩) (Or.inr (by rw [hT]; exact Nat.le_refl _)) _).set (a := ⟨T, 64, none⟩) (Or.inr (by rw [hT]; exact Nat.le_refl _)) _
  have c0 : (w.alloc (.cells Try.zeroCells39 39)).cell? ⟨T, 0, none⟩ = some (.int .u8 0) := B0.cell rfl
  have c1 : ((w.alloc (.cells Try.zeroCells39 39)).setCell ⟨T, 0, none⟩ (.int .u8 1)).cell? ⟨T, 64, none⟩ = some (.int .i64 0) := (B0.set 0 _).cell rfl
  have f0 : (w.alloc (.cells Try.zeroCells39 39)).frozen? ⟨T, 0, none⟩ = false := B0.free
  have f1 : ((w.alloc (.cells Try.zeroCells39 39)).setCell ⟨T, 0, none⟩ (.int .u8 1)).frozen? ⟨T, 64, none⟩ = false := (B0.set 0 _).free
  obtain ⟨U, hU⟩ : ∃ U, W.heap.size = U := ⟨_, rfl⟩
  obtain ⟨V, hV⟩ : ∃ V, (W.alloc (.cells oneR.cells.toArray 39)).setCell ⟨U, 64, none⟩ (.int .i64 256) = V := ⟨_, rfl⟩
  have B1 : Blk (W.alloc (.cells oneR.cells.toArray 39)) U oneR.cells.toArray 39 := by rw [← hU]; exact Blk.new W _ 39
  have BU : Blk V U badR.cells.toArray 39 := by rw [← hV, ← bad_cells]; exact B1.set 64 _
  have BTV : Blk V T oneR.cells.toArray 39 := by
    rw [← hV]
    exact (BT.alloc _).setOther (a := ⟨U, 64, none⟩) (by have := BT.lt; show T ≠ U; omega) _
  have kV : Keep [] w V := by
    rw [← hV]
    exact (kW.alloc _).set (a := ⟨U, 64, none⟩) (Or.inr (by have := kW.size; show w.heap.size ≤ U; omega)) _
  have c2 : (W.alloc (.cells oneR.cells.toArray 39)).cell? ⟨U, 64, none⟩ = some (.int .i64 7) := B1.cell rfl
  have f2 : (W.alloc (.cells oneR.cells.toArray 39)).frozen? ⟨U, 64, none⟩ = false := B1.free
  have rT := rangeAt_of_blk BT
  have HT := Lib.hid hT
  have HU := Lib.hid hU
  have HW := Lib.hid hW
  have HV := Lib.hid hV
  clear hT hU hW hV B0 B1 BT kW
  go_enter Try.func21, Try.ntmps21
  go_upto_region 2 with fail
  rw [HT.out]
  go_upto_region 4 with fail
  rw [HW.out]
  clear c0 c1 f0 f1
  go_upto_region 5 with (first
    | (refine wpList_load_mid rfl 39 (.tmp 1) rfl T 0 rfl oneR.cells _ rT Try.underlying39 rfl (hi39 oneR) ?_)
    | (refine wpList_store_last rfl 39 (.tmp 2) (.tmp 18) rfl W.heap.size Try.zeroCells39 oneR.cells.toArray rfl rfl rfl (hi39 oneR) (hz39 oneR) (res_all oneR) ?_)
    | fail)
  rw [HU.out]
  go_upto_region 6 with fail
  rw [HV.out]
  clear c2 f2 rT
  have rT := rangeAt_of_blk BTV
  have rU := rangeAt_of_blk BU
  go_upto_region 7 with (first
    | (refine wpList_load_mid rfl 39 (.tmp 1) rfl T 0 rfl oneR.cells _ rT Try.underlying39 rfl (hi39 oneR) ?_)
    | (refine wpList_build1 rfl 22 39 (.tmp 21) rfl oneR.cells.toArray rfl (.agg Try.zeroCells39) 65 72 Try.underlying22 info39 (by simp [Res.len]) (by omega) (by omega) ?_)
    | (go_at_call 14; refine (encode_yes _ 1 1 [oneR] _ (lit1 _ _) v_one).mono ?_; rintro e w6 ⟨a3, c3, rfl, s3, f3, k3⟩)
    | fail)
  have k6 := (keep_new V (.cells oneR.cells.toArray 39)).trans' k3
  have rT6 := rangeAt_keep rT k6 (by simp)
  have rU6 := rangeAt_keep rU k6 (by simp)
  go_upto_region 8 with (first
    | (refine wpList_load_mid rfl 39 (.tmp 1) rfl T 0 rfl oneR.cells _ rT6 Try.underlying39 rfl (hi39 oneR) ?_)
    | (refine wpList_load_mid rfl 39 (.tmp 2) rfl U 0 rfl badR.cells _ rU6 Try.underlying39 rfl (hi39 badR) ?_)
    | (refine wpList_build2 rfl 22 39 (.tmp 27) (.tmp 28) rfl oneR.cells.toArray badR.cells.toArray rfl rfl (.agg Try.zeroCells39) 65 72 Try.underlying22 info39 (by simp [Res.len]) (by simp [Res.len]) (by omega) (by omega) ?_)
    | (go_at_call 14; refine (encode_no _ 2 2 [oneR, badR] _ (lit2 _ _ _) v_two).mono ?_; rintro e w7 ⟨rfl, k7⟩)
    | fail)
  have k67 := (keep_new w6 (.cells (oneR.cells.toArray ++ badR.cells.toArray) 39)).trans' k7
  have rT7 := rangeAt_keep rT6 k67 (by simp)
  have rU7 := rangeAt_keep rU6 k67 (by simp)
  have s7 := s3.keep k67 (by simp)
  clear s3
  go_upto_region 9 with (first
    | (refine wpList_load_mid rfl 39 (.tmp 1) rfl T 0 rfl oneR.cells _ rT7 Try.underlying39 rfl (hi39 oneR) ?_)
    | (refine wpList_build1 rfl 22 39 (.tmp 34) rfl oneR.cells.toArray rfl (.agg Try.zeroCells39) 65 72 Try.underlying22 info39 (by simp [Res.len]) (by omega) (by omega) ?_; have rT8 := rangeAt_keep rT7 (keep_new w7 (.cells oneR.cells.toArray 39)) (by simp))
    | (refine wpList_load_mid rfl 37 (.tmp 36) rfl T 0 rfl (bs oneA) _ (rangeAt_act rT8) Try.underlying37 rfl (hi37 (xs := oneA) rfl) ?_)
    | (refine wpList_buildE rfl 39 0 2 (.tmp 37) (.const (.int .i64 9)) rfl (.agg (bs oneA).toArray) (.int .i64 9) rfl rfl nineR.cells.toArray built_nine ?_)
    | (go_at_call 22; refine (with9 _).mono ?_; rintro e w8 ⟨a8, c8, rfl, s8, f8, k8⟩)
    | fail)
  have k78 := (keep_new w7 (.cells oneR.cells.toArray 39)).trans' k8
  have rT8' := rangeAt_keep rT7 k78 (by simp)
  have rU8 := rangeAt_keep rU7 k78 (by simp)
  have s8b := s7.keep k78 (by simp)
  clear s7
  go_upto_region 10 with (first
    | (refine wpList_load_mid rfl 39 (.tmp 1) rfl T 0 rfl oneR.cells _ rT8' Try.underlying39 rfl (hi39 oneR) ?_)
    | (refine wpList_build1 rfl 22 39 (.tmp 43) rfl oneR.cells.toArray rfl (.agg Try.zeroCells39) 65 72 Try.underlying22 info39 (by simp [Res.len]) (by omega) (by omega) ?_)
    | (go_at_call 25; refine (join3 _ a8 c8 (RsIn.of_sl (s8.keep (keep_new _ _) (by simp)) rfl (by omega))).mono ?_; rintro e w9 ⟨a9, c9, i9, d9, rfl, s9, t9, f9, g9, k9⟩)
    | fail)
  have k89 := (keep_new w8 (.cells oneR.cells.toArray 39)).trans' k9
  have rT9 := rangeAt_keep rT8' k89 (by simp)
  have rU9 := rangeAt_keep rU8 k89 (by simp)
  have s9b := s8b.keep k89 (by simp)
  have s9c := s8.keep k89 (by simp)
  clear s8b s8
  go_upto_region 11 with (first
    | (refine wpList_load_mid rfl 39 (.tmp 2) rfl U 0 rfl badR.cells _ rU9 Try.underlying39 rfl (hi39 badR) ?_)
    | (refine wpList_build1 rfl 22 39 (.tmp 51) rfl badR.cells.toArray rfl (.agg Try.zeroCells39) 65 72 Try.underlying22 info39 (by simp [Res.len]) (by omega) (by omega) ?_; have rT10 := rangeAt_keep rT9 (keep_new w9 (.cells badR.cells.toArray 39)) (by simp))
    | (refine wpList_load_mid rfl 39 (.tmp 1) rfl T 0 rfl oneR.cells _ rT10 Try.underlying39 rfl (hi39 oneR) ?_)
    | (refine wpList_build1 rfl 22 39 (.tmp 53) rfl oneR.cells.toArray rfl (.agg Try.zeroCells39) 65 72 Try.underlying22 info39 (by simp [Res.len]) (by omega) (by omega) ?_)
    | (go_at_call 25; refine (join4b w9).mono ?_; rintro e w10 ⟨a10, c10, i10, d10, rfl, s10, t10, f10, g10, k10⟩)
    | fail)
  have k9A := ((keep_new w9 (.cells badR.cells.toArray 39)).trans' (keep_new _ (.cells oneR.cells.toArray 39))).trans' k10
  have rTA := rangeAt_keep rT9 k9A (by simp)
  have sAb := s9b.keep k9A (by simp)
  have sAc := s9c.keep k9A (by simp)
  have sAd := t9.keep k9A (by simp)
  have KK := Lib.hid ((((kV.trans' k6).trans' k67).trans' k78).trans' (k89.trans' k9A))
  rw [enc_one] at sAb ⊢
  obtain ⟨b3, o3, rfl, hc3⟩ : ∃ b o, a3 = some ⟨b, o, none⟩ ∧ ∀ k v, (bs (encR [oneR]))[k]? = some v → w10.cell? ⟨b, o + k, none⟩ = some v := by
    rcases sAb.rd with e | ⟨b, o, e, hc⟩
    · have := congrArg List.length e; rw [bs_length, enc_one] at this; cases this
    · exact ⟨b, o, e, hc⟩
  have cB0 : w10.cell? ⟨b3, o3, none⟩ = some (.int .u8 1) := hc3 0 _ (by simp [bs, enc_at.1])
  have cB1 : w10.cell? ⟨b3, o3 + 1, none⟩ = some (.int .u8 1) := hc3 1 _ (by simp [bs, enc_at.2.1])
  have cB65 : w10.cell? ⟨b3, o3 + 65, none⟩ = some (.int .u8 7) := hc3 65 _ (by simp [bs, enc_at.2.2])
  obtain ⟨b8, o8, rfl, rN⟩ := (RsIn.of_sl (l := [nineR]) sAc rfl (by simp)).head
  have cN : w10.cell? ⟨b8, o8 + 64, none⟩ = some (.int .i64 9) := rangeAt_code rN
  obtain ⟨bi, oi, rfl, hci⟩ : ∃ b o, i9 = some ⟨b, o, none⟩ ∧ w10.rangeAt b o (bs oneA) := by
    rcases sAd.rd with e | ⟨b, o, e, hc⟩
    · have := congrArg List.length e; rw [idCells_one, bs_length] at this; cases this
    · exact ⟨b, o, e, fun k v hk => hc k v (by rw [idCells_one]; exact hk)⟩
  obtain ⟨N, hN, hso⟩ := size39
  have heq : ∀ w, (Op.equalIn 10000 37 (.agg (bs oneA).toArray) (.agg (bs oneA).toArray)).run Try.prog w = .ok true w := fun w => by
    have := eql_id 9998 oneA oneA rfl rfl w
    rwa [show (oneA == oneA) = true by decide] at this
  have V0 := Lib.hid valid_nil
  clear sAb sAc sAd hc3 s9b s9c s9 t9 f9 g9 k9 k89 rT9 rU9 rT10 s10 t10 f10 g10 k10 k9A k8 k78 f8 rT8' rU8 rT8 rT7 rU7 k7 k67 rT6 rU6 k3 k6 f3 rT rU BU BTV kV HW HV HT HU hN
  go_upto_region 13 with fail
  refine wp_region_noPanic ?_
  refine wp_region_held_drew (S := fun W => Keep [] w10 W) (by kernel_rfl) ?_ (fun hHeld0 => ?_)
  · (try dsimp only); first | exact (Keep.refl [] _).drew | exact Keep.trans' (by assumption) hk
  refine wpAnyH_take (i := 0) (oi := ({ dst := some 82, op := Go.Op.move (Go.Operand.tmp 3), type := 25, pos := "law.go:83", after := #[], guard := none } : Oper)) (v := ?_) rfl (by kernel_rfl) (by kernel_rfl) (by kernel_rfl) (fun _ _ _ h => h) (Or.inl ⟨by rfl, ?_⟩) (by assumption) ?_
  rotate_left
  · (intro w hSw; (try dsimp only at hSw); go_simp; try with_reducible rfl)
  try simp only [Act.put, List.setIfInBounds_toArray, List.set_cons_zero, List.set_cons_succ]
  refine wpAnyH_take (i := 1) (oi := ({ dst := some 83, op := Go.Op.call { callee := Go.Callee.builtin Go.Builtin.len, args := #[Go.Operand.tmp 82], argTypes := #[25] }, type := 3, pos := "law.go:83", after := #[{ on := 0, ground := Go.Ground.data }], guard := none } : Oper)) (v := ?_) rfl (by kernel_rfl) (by kernel_rfl) (by kernel_rfl) (fun _ _ _ h => h) (Or.inl ⟨by rfl, ?_⟩) (by assumption) ?_
  rotate_left
  · (intro w hSw; (try dsimp only at hSw); go_simp; try with_reducible rfl)
  try simp only [Act.put, List.setIfInBounds_toArray, List.set_cons_zero, List.set_cons_succ]
  refine wpAnyH_take (i := 2) (oi := ({ dst := some 84, op := Go.Op.binOp Go.BinOp.eql 3 (Go.Operand.tmp 83) (Go.Operand.const (Go.Value.int Go.IntKind.i64 66)) 3, type := 4, pos := "law.go:83", after := #[{ on := 1, ground := Go.Ground.data }], guard := none } : Oper)) (v := ?_) rfl (by kernel_rfl) (by kernel_rfl) (by kernel_rfl) (fun _ _ _ h => h) (Or.inl ⟨by rfl, ?_⟩) (by assumption) ?_
  rotate_left
  · (intro w hSw; (try dsimp only at hSw); go_simp; try with_reducible rfl)
  try simp only [Act.put, List.setIfInBounds_toArray, List.set_cons_zero, List.set_cons_succ]
  refine wpAnyH_take (i := 3) (oi := ({ dst := some 85, op := Go.Op.move (Go.Operand.tmp 84), type := 4, pos := "law.go:83", after := #[{ on := 2, ground := Go.Ground.data }], guard := none } : Oper)) (v := ?_) rfl (by kernel_rfl) (by kernel_rfl) (by kernel_rfl) (fun _ _ _ h => h) (Or.inl ⟨by rfl, ?_⟩) (by assumption) ?_
  rotate_left
  · (intro w hSw; (try dsimp only at hSw); go_simp; try with_reducible rfl)
  try simp only [Act.put, List.setIfInBounds_toArray, List.set_cons_zero, List.set_cons_succ]
  refine wpAnyH_take (i := 4) (oi := ({ dst := some 86, op := Go.Op.move (Go.Operand.tmp 3), type := 25, pos := "law.go:83", after := #[{ on := 3, ground := Go.Ground.guard }], guard := some (3, true) } : Oper)) (v := ?_) rfl (by kernel_rfl) (by kernel_rfl) (by kernel_rfl) (fun _ _ _ h => h) (Or.inl ⟨by rfl, ?_⟩) (by assumption) ?_
  rotate_left
  · (intro w hSw; (try dsimp only at hSw); go_simp; try with_reducible rfl)
  try simp only [Act.put, List.setIfInBounds_toArray, List.set_cons_zero, List.set_cons_succ]
  refine wpAnyH_take (i := 5) (oi := ({ dst := some 87, op := Go.Op.indexAddr 25 (Go.Operand.tmp 86) (Go.Operand.const (Go.Value.int Go.IntKind.i64 0)), type := 0, pos := "law.go:83", after := #[{ on := 4, ground := Go.Ground.data }, { on := 3, ground := Go.Ground.guard }], guard := some (3, true) } : Oper)) (v := ?_) rfl (by kernel_rfl) (by kernel_rfl) (by kernel_rfl) (fun _ _ _ h => h) (Or.inl ⟨by rfl, ?_⟩) (by assumption) ?_
  rotate_left
  · (intro w hSw; (try dsimp only at hSw); go_simp; try with_reducible rfl)
  try simp only [Act.put, List.setIfInBounds_toArray, List.set_cons_zero, List.set_cons_succ]
  refine wpAnyH_take (i := 6) (oi := ({ dst := some 88, op := Go.Op.load 5 (Go.Operand.tmp 87), type := 5, pos := "law.go:83", after := #[{ on := 5, ground := Go.Ground.data }, { on := 3, ground := Go.Ground.guard }], guard := some (3, true) } : Oper)) (v := ?_) rfl (by kernel_rfl) (by kernel_rfl) (by kernel_rfl) (fun _ _ _ h => h) (Or.inl ⟨by rfl, ?_⟩) (by assumption) ?_
  rotate_left
  · (intro w hSw; (try dsimp only at hSw); have cc := hSw.cell cB0 (by simp); go_simp; try with_reducible rfl)
  try simp only [Act.put, List.setIfInBounds_toArray, List.set_cons_zero, List.set_cons_succ]
  refine wpAnyH_take (i := 7) (oi := ({ dst := some 89, op := Go.Op.binOp Go.BinOp.eql 5 (Go.Operand.tmp 88) (Go.Operand.const (Go.Value.int Go.IntKind.u8 1)) 5, type := 4, pos := "law.go:83", after := #[{ on := 6, ground := Go.Ground.data }, { on := 3, ground := Go.Ground.guard }], guard := some (3, true) } : Oper)) (v := ?_) rfl (by kernel_rfl) (by kernel_rfl) (by kernel_rfl) (fun _ _ _ h => h) (Or.inl ⟨by rfl, ?_⟩) (by assumption) ?_
  rotate_left
  · (intro w hSw; (try dsimp only at hSw); go_simp; try with_reducible rfl)
  try simp only [Act.put, List.setIfInBounds_toArray, List.set_cons_zero, List.set_cons_succ]
  refine wpAnyH_take (i := 8) (oi := ({ dst := some 90, op := Go.Op.pick (Go.Operand.tmp 85) (Go.Operand.tmp 89) (Go.Operand.const (Go.Value.bool false)), type := 4, pos := "law.go:83", after := #[{ on := 3, ground := Go.Ground.data }, { on := 7, ground := Go.Ground.data }], guard := none } : Oper)) (v := ?_) rfl (by kernel_rfl) (by kernel_rfl) (by kernel_rfl) (fun _ _ _ h => h) (Or.inl ⟨by rfl, ?_⟩) (by assumption) ?_
  rotate_left
  · (intro w hSw; (try dsimp only at hSw); go_simp; try with_reducible rfl)
  try simp only [Act.put, List.setIfInBounds_toArray, List.set_cons_zero, List.set_cons_succ]
  refine wpAnyH_take (i := 9) (oi := ({ dst := some 91, op := Go.Op.move (Go.Operand.tmp 90), type := 4, pos := "law.go:83", after := #[{ on := 8, ground := Go.Ground.data }, { on := 3, ground := Go.Ground.chain }], guard := none } : Oper)) (v := ?_) rfl (by kernel_rfl) (by kernel_rfl) (by kernel_rfl) (fun _ _ _ h => h) (Or.inl ⟨by rfl, ?_⟩) (by assumption) ?_
  rotate_left
  · (intro w hSw; (try dsimp only at hSw); go_simp; try with_reducible rfl)
  try simp only [Act.put, List.setIfInBounds_toArray, List.set_cons_zero, List.set_cons_succ]
  refine wpAnyH_take (i := 10) (oi := ({ dst := some 92, op := Go.Op.move (Go.Operand.tmp 3), type := 25, pos := "law.go:83", after := #[{ on := 9, ground := Go.Ground.guard }], guard := some (9, true) } : Oper)) (v := ?_) rfl (by kernel_rfl) (by kernel_rfl) (by kernel_rfl) (fun _ _ _ h => h) (Or.inl ⟨by rfl, ?_⟩) (by assumption) ?_
  rotate_left
  · (intro w hSw; (try dsimp only at hSw); go_simp; try with_reducible rfl)
  try simp only [Act.put, List.setIfInBounds_toArray, List.set_cons_zero, List.set_cons_succ]
  refine wpAnyH_take (i := 11) (oi := ({ dst := some 93, op := Go.Op.indexAddr 25 (Go.Operand.tmp 92) (Go.Operand.const (Go.Value.int Go.IntKind.i64 1)), type := 0, pos := "law.go:83", after := #[{ on := 10, ground := Go.Ground.data }, { on := 9, ground := Go.Ground.guard }], guard := some (9, true) } : Oper)) (v := ?_) rfl (by kernel_rfl) (by kernel_rfl) (by kernel_rfl) (fun _ _ _ h => h) (Or.inl ⟨by rfl, ?_⟩) (by assumption) ?_
  rotate_left
  · (intro w hSw; (try dsimp only at hSw); go_simp; try with_reducible rfl)
  try simp only [Act.put, List.setIfInBounds_toArray, List.set_cons_zero, List.set_cons_succ]
  refine wpAnyH_take (i := 12) (oi := ({ dst := some 94, op := Go.Op.load 5 (Go.Operand.tmp 93), type := 5, pos := "law.go:83", after := #[{ on := 11, ground := Go.Ground.data }, { on := 9, ground := Go.Ground.guard }], guard := some (9, true) } : Oper)) (v := ?_) rfl (by kernel_rfl) (by kernel_rfl) (by kernel_rfl) (fun _ _ _ h => h) (Or.inl ⟨by rfl, ?_⟩) (by assumption) ?_
  rotate_left
  · (intro w hSw; (try dsimp only at hSw); have cc := hSw.cell cB1 (by simp); go_simp; try with_reducible rfl)
  try simp only [Act.put, List.setIfInBounds_toArray, List.set_cons_zero, List.set_cons_succ]
  refine wpAnyH_take (i := 13) (oi := ({ dst := some 95, op := Go.Op.binOp Go.BinOp.eql 5 (Go.Operand.tmp 94) (Go.Operand.const (Go.Value.int Go.IntKind.u8 1)) 5, type := 4, pos := "law.go:83", after := #[{ on := 12, ground := Go.Ground.data }, { on := 9, ground := Go.Ground.guard }], guard := some (9, true) } : Oper)) (v := ?_) rfl (by kernel_rfl) (by kernel_rfl) (by kernel_rfl) (fun _ _ _ h => h) (Or.inl ⟨by rfl, ?_⟩) (by assumption) ?_
  rotate_left
  · (intro w hSw; (try dsimp only at hSw); go_simp; try with_reducible rfl)
  try simp only [Act.put, List.setIfInBounds_toArray, List.set_cons_zero, List.set_cons_succ]
  refine wpAnyH_take (i := 14) (oi := ({ dst := some 96, op := Go.Op.pick (Go.Operand.tmp 91) (Go.Operand.tmp 95) (Go.Operand.const (Go.Value.bool false)), type := 4, pos := "law.go:83", after := #[{ on := 9, ground := Go.Ground.data }, { on := 13, ground := Go.Ground.data }], guard := none } : Oper)) (v := ?_) rfl (by kernel_rfl) (by kernel_rfl) (by kernel_rfl) (fun _ _ _ h => h) (Or.inl ⟨by rfl, ?_⟩) (by assumption) ?_
  rotate_left
  · (intro w hSw; (try dsimp only at hSw); go_simp; try with_reducible rfl)
  try simp only [Act.put, List.setIfInBounds_toArray, List.set_cons_zero, List.set_cons_succ]
  refine wpAnyH_take (i := 15) (oi := ({ dst := some 97, op := Go.Op.move (Go.Operand.tmp 96), type := 4, pos := "law.go:83", after := #[{ on := 14, ground := Go.Ground.data }, { on := 9, ground := Go.Ground.chain }], guard := none } : Oper)) (v := ?_) rfl (by kernel_rfl) (by kernel_rfl) (by kernel_rfl) (fun _ _ _ h => h) (Or.inl ⟨by rfl, ?_⟩) (by assumption) ?_
  rotate_left
  · (intro w hSw; (try dsimp only at hSw); go_simp; try with_reducible rfl)
  try simp only [Act.put, List.setIfInBounds_toArray, List.set_cons_zero, List.set_cons_succ]
  refine wpAnyH_take (i := 16) (oi := ({ dst := some 98, op := Go.Op.move (Go.Operand.tmp 3), type := 25, pos := "law.go:83", after := #[{ on := 15, ground := Go.Ground.guard }], guard := some (15, true) } : Oper)) (v := ?_) rfl (by kernel_rfl) (by kernel_rfl) (by kernel_rfl) (fun _ _ _ h => h) (Or.inl ⟨by rfl, ?_⟩) (by assumption) ?_
  rotate_left
  · (intro w hSw; (try dsimp only at hSw); go_simp; try with_reducible rfl)
  try simp only [Act.put, List.setIfInBounds_toArray, List.set_cons_zero, List.set_cons_succ]
  refine wpAnyH_take (i := 17) (oi := ({ dst := some 99, op := Go.Op.indexAddr 25 (Go.Operand.tmp 98) (Go.Operand.const (Go.Value.int Go.IntKind.i64 65)), type := 0, pos := "law.go:83", after := #[{ on := 16, ground := Go.Ground.data }, { on := 15, ground := Go.Ground.guard }], guard := some (15, true) } : Oper)) (v := ?_) rfl (by kernel_rfl) (by kernel_rfl) (by kernel_rfl) (fun _ _ _ h => h) (Or.inl ⟨by rfl, ?_⟩) (by assumption) ?_
  rotate_left
  · (intro w hSw; (try dsimp only at hSw); go_simp; try with_reducible rfl)
  try simp only [Act.put, List.setIfInBounds_toArray, List.set_cons_zero, List.set_cons_succ]
  refine wpAnyH_take (i := 18) (oi := ({ dst := some 100, op := Go.Op.load 5 (Go.Operand.tmp 99), type := 5, pos := "law.go:83", after := #[{ on := 17, ground := Go.Ground.data }, { on := 15, ground := Go.Ground.guard }], guard := some (15, true) } : Oper)) (v := ?_) rfl (by kernel_rfl) (by kernel_rfl) (by kernel_rfl) (fun _ _ _ h => h) (Or.inl ⟨by rfl, ?_⟩) (by assumption) ?_
  rotate_left
  · (intro w hSw; (try dsimp only at hSw); have cc := hSw.cell cB65 (by simp); go_simp; try with_reducible rfl)
  try simp only [Act.put, List.setIfInBounds_toArray, List.set_cons_zero, List.set_cons_succ]
  refine wpAnyH_take (i := 19) (oi := ({ dst := some 101, op := Go.Op.binOp Go.BinOp.eql 5 (Go.Operand.tmp 100) (Go.Operand.const (Go.Value.int Go.IntKind.u8 7)) 5, type := 4, pos := "law.go:83", after := #[{ on := 18, ground := Go.Ground.data }, { on := 15, ground := Go.Ground.guard }], guard := some (15, true) } : Oper)) (v := ?_) rfl (by kernel_rfl) (by kernel_rfl) (by kernel_rfl) (fun _ _ _ h => h) (Or.inl ⟨by rfl, ?_⟩) (by assumption) ?_
  rotate_left
  · (intro w hSw; (try dsimp only at hSw); go_simp; try with_reducible rfl)
  try simp only [Act.put, List.setIfInBounds_toArray, List.set_cons_zero, List.set_cons_succ]
  refine wpAnyH_take (i := 20) (oi := ({ dst := some 102, op := Go.Op.pick (Go.Operand.tmp 97) (Go.Operand.tmp 101) (Go.Operand.const (Go.Value.bool false)), type := 4, pos := "law.go:83", after := #[{ on := 15, ground := Go.Ground.data }, { on := 19, ground := Go.Ground.data }], guard := none } : Oper)) (v := ?_) rfl (by kernel_rfl) (by kernel_rfl) (by kernel_rfl) (fun _ _ _ h => h) (Or.inl ⟨by rfl, ?_⟩) (by assumption) ?_
  rotate_left
  · (intro w hSw; (try dsimp only at hSw); go_simp; try with_reducible rfl)
  try simp only [Act.put, List.setIfInBounds_toArray, List.set_cons_zero, List.set_cons_succ]
  refine wpAnyH_take (i := 21) (oi := ({ dst := some 103, op := Go.Op.move (Go.Operand.tmp 102), type := 4, pos := "law.go:83", after := #[{ on := 20, ground := Go.Ground.data }, { on := 15, ground := Go.Ground.chain }], guard := none } : Oper)) (v := ?_) rfl (by kernel_rfl) (by kernel_rfl) (by kernel_rfl) (fun _ _ _ h => h) (Or.inl ⟨by rfl, ?_⟩) (by assumption) ?_
  rotate_left
  · (intro w hSw; (try dsimp only at hSw); go_simp; try with_reducible rfl)
  try simp only [Act.put, List.setIfInBounds_toArray, List.set_cons_zero, List.set_cons_succ]
  refine wpAnyH_take (i := 22) (oi := ({ dst := some 104, op := Go.Op.move (Go.Operand.tmp 7), type := 22, pos := "law.go:83", after := #[{ on := 21, ground := Go.Ground.guard }], guard := some (21, true) } : Oper)) (v := ?_) rfl (by kernel_rfl) (by kernel_rfl) (by kernel_rfl) (fun _ _ _ h => h) (Or.inl ⟨by rfl, ?_⟩) (by assumption) ?_
  rotate_left
  · (intro w hSw; (try dsimp only at hSw); go_simp; try with_reducible rfl)
  try simp only [Act.put, List.setIfInBounds_toArray, List.set_cons_zero, List.set_cons_succ]
  refine wpAnyH_take (i := 23) (oi := ({ dst := some 105, op := Go.Op.call { callee := Go.Callee.builtin Go.Builtin.len, args := #[Go.Operand.tmp 104], argTypes := #[22] }, type := 3, pos := "law.go:83", after := #[{ on := 22, ground := Go.Ground.data }, { on := 21, ground := Go.Ground.guard }], guard := some (21, true) } : Oper)) (v := ?_) rfl (by kernel_rfl) (by kernel_rfl) (by kernel_rfl) (fun _ _ _ h => h) (Or.inl ⟨by rfl, ?_⟩) (by assumption) ?_
  rotate_left
  · (intro w hSw; (try dsimp only at hSw); go_simp; try with_reducible rfl)
  try simp only [Act.put, List.setIfInBounds_toArray, List.set_cons_zero, List.set_cons_succ]
  refine wpAnyH_take (i := 24) (oi := ({ dst := some 106, op := Go.Op.binOp Go.BinOp.eql 3 (Go.Operand.tmp 105) (Go.Operand.const (Go.Value.int Go.IntKind.i64 1)) 3, type := 4, pos := "law.go:83", after := #[{ on := 23, ground := Go.Ground.data }, { on := 21, ground := Go.Ground.guard }], guard := some (21, true) } : Oper)) (v := ?_) rfl (by kernel_rfl) (by kernel_rfl) (by kernel_rfl) (fun _ _ _ h => h) (Or.inl ⟨by rfl, ?_⟩) (by assumption) ?_
  rotate_left
  · (intro w hSw; (try dsimp only at hSw); go_simp; try with_reducible rfl)
  try simp only [Act.put, List.setIfInBounds_toArray, List.set_cons_zero, List.set_cons_succ]
  refine wpAnyH_take (i := 25) (oi := ({ dst := some 107, op := Go.Op.pick (Go.Operand.tmp 103) (Go.Operand.tmp 106) (Go.Operand.const (Go.Value.bool false)), type := 4, pos := "law.go:83", after := #[{ on := 21, ground := Go.Ground.data }, { on := 24, ground := Go.Ground.data }], guard := none } : Oper)) (v := ?_) rfl (by kernel_rfl) (by kernel_rfl) (by kernel_rfl) (fun _ _ _ h => h) (Or.inl ⟨by rfl, ?_⟩) (by assumption) ?_
  rotate_left
  · (intro w hSw; (try dsimp only at hSw); go_simp; try with_reducible rfl)
  try simp only [Act.put, List.setIfInBounds_toArray, List.set_cons_zero, List.set_cons_succ]
  refine wpAnyH_take (i := 26) (oi := ({ dst := some 108, op := Go.Op.move (Go.Operand.tmp 107), type := 4, pos := "law.go:83", after := #[{ on := 25, ground := Go.Ground.data }, { on := 21, ground := Go.Ground.chain }], guard := none } : Oper)) (v := ?_) rfl (by kernel_rfl) (by kernel_rfl) (by kernel_rfl) (fun _ _ _ h => h) (Or.inl ⟨by rfl, ?_⟩) (by assumption) ?_
  rotate_left
  · (intro w hSw; (try dsimp only at hSw); go_simp; try with_reducible rfl)
  try simp only [Act.put, List.setIfInBounds_toArray, List.set_cons_zero, List.set_cons_succ]
  refine wpAnyH_take (i := 27) (oi := ({ dst := some 109, op := Go.Op.move (Go.Operand.tmp 7), type := 22, pos := "law.go:83", after := #[{ on := 26, ground := Go.Ground.guard }], guard := some (26, true) } : Oper)) (v := ?_) rfl (by kernel_rfl) (by kernel_rfl) (by kernel_rfl) (fun _ _ _ h => h) (Or.inl ⟨by rfl, ?_⟩) (by assumption) ?_
  rotate_left
  · (intro w hSw; (try dsimp only at hSw); go_simp; try with_reducible rfl)
  try simp only [Act.put, List.setIfInBounds_toArray, List.set_cons_zero, List.set_cons_succ]
  refine wpAnyH_take (i := 28) (oi := ({ dst := some 110, op := Go.Op.indexAddr 22 (Go.Operand.tmp 109) (Go.Operand.const (Go.Value.int Go.IntKind.i64 0)), type := 0, pos := "law.go:83", after := #[{ on := 27, ground := Go.Ground.data }, { on := 26, ground := Go.Ground.guard }], guard := some (26, true) } : Oper)) (v := ?_) rfl (by kernel_rfl) (by kernel_rfl) (by kernel_rfl) (fun _ _ _ h => h) (Or.inl ⟨by rfl, ?_⟩) (by assumption) ?_
  rotate_left
  · (intro w hSw; (try dsimp only at hSw); go_simp; try with_reducible rfl)
  try simp only [Act.put, List.setIfInBounds_toArray, List.set_cons_zero, List.set_cons_succ]
  refine wpAnyH_take (i := 29) (oi := ({ dst := some 111, op := Go.Op.fieldAddr 39 (Go.Operand.tmp 110) 2, type := 0, pos := "law.go:83", after := #[{ on := 28, ground := Go.Ground.data }, { on := 26, ground := Go.Ground.guard }], guard := some (26, true) } : Oper)) (v := ?_) rfl (by kernel_rfl) (by kernel_rfl) (by kernel_rfl) (fun _ _ _ h => h) (Or.inl ⟨by rfl, ?_⟩) (by assumption) ?_
  rotate_left
  · (intro w hSw; (try dsimp only at hSw); go_simp; try with_reducible rfl)
  try simp only [Act.put, List.setIfInBounds_toArray, List.set_cons_zero, List.set_cons_succ]
  refine wpAnyH_take (i := 30) (oi := ({ dst := some 112, op := Go.Op.load 3 (Go.Operand.tmp 111), type := 3, pos := "law.go:83", after := #[{ on := 29, ground := Go.Ground.data }, { on := 26, ground := Go.Ground.guard }], guard := some (26, true) } : Oper)) (v := ?_) rfl (by kernel_rfl) (by kernel_rfl) (by kernel_rfl) (fun _ _ _ h => h) (Or.inl ⟨by rfl, ?_⟩) (by assumption) ?_
  rotate_left
  · (intro w hSw; (try dsimp only at hSw); have cc := hSw.cell cN (by simp); go_simp; try with_reducible rfl)
  try simp only [Act.put, List.setIfInBounds_toArray, List.set_cons_zero, List.set_cons_succ]
  refine wpAnyH_take (i := 31) (oi := ({ dst := some 113, op := Go.Op.binOp Go.BinOp.eql 3 (Go.Operand.tmp 112) (Go.Operand.const (Go.Value.int Go.IntKind.i64 9)) 3, type := 4, pos := "law.go:83", after := #[{ on := 30, ground := Go.Ground.data }, { on := 26, ground := Go.Ground.guard }], guard := some (26, true) } : Oper)) (v := ?_) rfl (by kernel_rfl) (by kernel_rfl) (by kernel_rfl) (fun _ _ _ h => h) (Or.inl ⟨by rfl, ?_⟩) (by assumption) ?_
  rotate_left
  · (intro w hSw; (try dsimp only at hSw); go_simp; try with_reducible rfl)
  try simp only [Act.put, List.setIfInBounds_toArray, List.set_cons_zero, List.set_cons_succ]
  refine wpAnyH_take (i := 32) (oi := ({ dst := some 114, op := Go.Op.pick (Go.Operand.tmp 108) (Go.Operand.tmp 113) (Go.Operand.const (Go.Value.bool false)), type := 4, pos := "law.go:83", after := #[{ on := 26, ground := Go.Ground.data }, { on := 31, ground := Go.Ground.data }], guard := none } : Oper)) (v := ?_) rfl (by kernel_rfl) (by kernel_rfl) (by kernel_rfl) (fun _ _ _ h => h) (Or.inl ⟨by rfl, ?_⟩) (by assumption) ?_
  rotate_left
  · (intro w hSw; (try dsimp only at hSw); go_simp; try with_reducible rfl)
  try simp only [Act.put, List.setIfInBounds_toArray, List.set_cons_zero, List.set_cons_succ]
  refine wpAnyH_take (i := 33) (oi := ({ dst := some 115, op := Go.Op.move (Go.Operand.tmp 114), type := 4, pos := "law.go:83", after := #[{ on := 32, ground := Go.Ground.data }, { on := 26, ground := Go.Ground.chain }], guard := none } : Oper)) (v := ?_) rfl (by kernel_rfl) (by kernel_rfl) (by kernel_rfl) (fun _ _ _ h => h) (Or.inl ⟨by rfl, ?_⟩) (by assumption) ?_
  rotate_left
  · (intro w hSw; (try dsimp only at hSw); go_simp; try with_reducible rfl)
  try simp only [Act.put, List.setIfInBounds_toArray, List.set_cons_zero, List.set_cons_succ]
  refine wpAnyH_take (i := 34) (oi := ({ dst := some 116, op := Go.Op.move (Go.Operand.tmp 10), type := 45, pos := "law.go:83", after := #[{ on := 33, ground := Go.Ground.guard }], guard := some (33, true) } : Oper)) (v := ?_) rfl (by kernel_rfl) (by kernel_rfl) (by kernel_rfl) (fun _ _ _ h => h) (Or.inl ⟨by rfl, ?_⟩) (by assumption) ?_
  rotate_left
  · (intro w hSw; (try dsimp only at hSw); go_simp; try with_reducible rfl)
  try simp only [Act.put, List.setIfInBounds_toArray, List.set_cons_zero, List.set_cons_succ]
  refine wpAnyH_take (i := 35) (oi := ({ dst := some 117, op := Go.Op.call { callee := Go.Callee.builtin Go.Builtin.len, args := #[Go.Operand.tmp 116], argTypes := #[45] }, type := 3, pos := "law.go:83", after := #[{ on := 34, ground := Go.Ground.data }, { on := 33, ground := Go.Ground.guard }], guard := some (33, true) } : Oper)) (v := ?_) rfl (by kernel_rfl) (by kernel_rfl) (by kernel_rfl) (fun _ _ _ h => h) (Or.inl ⟨by rfl, ?_⟩) (by assumption) ?_
  rotate_left
  · (intro w hSw; (try dsimp only at hSw); go_simp; try with_reducible rfl)
  try simp only [Act.put, List.setIfInBounds_toArray, List.set_cons_zero, List.set_cons_succ]
  refine wpAnyH_take (i := 36) (oi := ({ dst := some 118, op := Go.Op.binOp Go.BinOp.eql 3 (Go.Operand.tmp 117) (Go.Operand.const (Go.Value.int Go.IntKind.i64 1)) 3, type := 4, pos := "law.go:83", after := #[{ on := 35, ground := Go.Ground.data }, { on := 33, ground := Go.Ground.guard }], guard := some (33, true) } : Oper)) (v := ?_) rfl (by kernel_rfl) (by kernel_rfl) (by kernel_rfl) (fun _ _ _ h => h) (Or.inl ⟨by rfl, ?_⟩) (by assumption) ?_
  rotate_left
  · (intro w hSw; (try dsimp only at hSw); go_simp; try with_reducible rfl)
  try simp only [Act.put, List.setIfInBounds_toArray, List.set_cons_zero, List.set_cons_succ]
  refine wpAnyH_take (i := 37) (oi := ({ dst := some 119, op := Go.Op.pick (Go.Operand.tmp 115) (Go.Operand.tmp 118) (Go.Operand.const (Go.Value.bool false)), type := 4, pos := "law.go:83", after := #[{ on := 33, ground := Go.Ground.data }, { on := 36, ground := Go.Ground.data }], guard := none } : Oper)) (v := ?_) rfl (by kernel_rfl) (by kernel_rfl) (by kernel_rfl) (fun _ _ _ h => h) (Or.inl ⟨by rfl, ?_⟩) (by assumption) ?_
  rotate_left
  · (intro w hSw; (try dsimp only at hSw); go_simp; try with_reducible rfl)
  try simp only [Act.put, List.setIfInBounds_toArray, List.set_cons_zero, List.set_cons_succ]
  refine wpAnyH_take (i := 38) (oi := ({ dst := some 120, op := Go.Op.move (Go.Operand.tmp 119), type := 4, pos := "law.go:83", after := #[{ on := 37, ground := Go.Ground.data }, { on := 33, ground := Go.Ground.chain }], guard := none } : Oper)) (v := ?_) rfl (by kernel_rfl) (by kernel_rfl) (by kernel_rfl) (fun _ _ _ h => h) (Or.inl ⟨by rfl, ?_⟩) (by assumption) ?_
  rotate_left
  · (intro w hSw; (try dsimp only at hSw); go_simp; try with_reducible rfl)
  try simp only [Act.put, List.setIfInBounds_toArray, List.set_cons_zero, List.set_cons_succ]
  refine wpAnyH_take (i := 39) (oi := ({ dst := some 121, op := Go.Op.move (Go.Operand.tmp 10), type := 45, pos := "law.go:83", after := #[{ on := 38, ground := Go.Ground.guard }], guard := some (38, true) } : Oper)) (v := ?_) rfl (by kernel_rfl) (by kernel_rfl) (by kernel_rfl) (fun _ _ _ h => h) (Or.inl ⟨by rfl, ?_⟩) (by assumption) ?_
  rotate_left
  · (intro w hSw; (try dsimp only at hSw); go_simp; try with_reducible rfl)
  try simp only [Act.put, List.setIfInBounds_toArray, List.set_cons_zero, List.set_cons_succ]
  refine wpAnyH_take (i := 40) (oi := ({ dst := some 122, op := Go.Op.indexAddr 45 (Go.Operand.tmp 121) (Go.Operand.const (Go.Value.int Go.IntKind.i64 0)), type := 0, pos := "law.go:83", after := #[{ on := 39, ground := Go.Ground.data }, { on := 38, ground := Go.Ground.guard }], guard := some (38, true) } : Oper)) (v := ?_) rfl (by kernel_rfl) (by kernel_rfl) (by kernel_rfl) (fun _ _ _ h => h) (Or.inl ⟨by rfl, ?_⟩) (by assumption) ?_
  rotate_left
  · (intro w hSw; (try dsimp only at hSw); go_simp; try with_reducible rfl)
  try simp only [Act.put, List.setIfInBounds_toArray, List.set_cons_zero, List.set_cons_succ]
  refine wpAnyH_take (i := 41) (oi := ({ dst := some 123, op := Go.Op.load 37 (Go.Operand.tmp 122), type := 37, pos := "law.go:83", after := #[{ on := 40, ground := Go.Ground.data }, { on := 38, ground := Go.Ground.guard }], guard := some (38, true) } : Oper)) (v := .agg (List.toArray (bs oneA))) rfl (by kernel_rfl) (by kernel_rfl) (by kernel_rfl) (fun _ _ _ h => h) (yieldsIf_load_mid (by rfl) _ _ rfl _ _ rfl (bs oneA) _ (fun w hSw => (rangeAt_keep hci hSw (by simp))) Try.underlying37 rfl (hi37 (xs := oneA) rfl)) (by assumption) ?_
  try simp only [Act.put, List.setIfInBounds_toArray, List.set_cons_zero, List.set_cons_succ]
  refine wpAnyH_take (i := 42) (oi := ({ dst := some 124, op := Go.Op.fieldAddr 39 (Go.Operand.tmp 1) 0, type := 0, pos := "law.go:83", after := #[{ on := 38, ground := Go.Ground.guard }], guard := some (38, true) } : Oper)) (v := ?_) rfl (by kernel_rfl) (by kernel_rfl) (by kernel_rfl) (fun _ _ _ h => h) (Or.inl ⟨by rfl, ?_⟩) (by assumption) ?_
  rotate_left
  · (intro w hSw; (try dsimp only at hSw); go_simp; try with_reducible rfl)
  try simp only [Act.put, List.setIfInBounds_toArray, List.set_cons_zero, List.set_cons_succ]
  refine wpAnyH_take (i := 43) (oi := ({ dst := some 125, op := Go.Op.load 37 (Go.Operand.tmp 124), type := 37, pos := "law.go:83", after := #[{ on := 42, ground := Go.Ground.data }, { on := 38, ground := Go.Ground.guard }], guard := some (38, true) } : Oper)) (v := .agg (List.toArray (bs oneA))) rfl (by kernel_rfl) (by kernel_rfl) (by kernel_rfl) (fun _ _ _ h => h) (yieldsIf_load_mid (by rfl) _ _ rfl _ _ rfl (bs oneA) _ (fun w hSw => (rangeAt_act (x := oneR) (rangeAt_keep rTA hSw (by simp)))) Try.underlying37 rfl (hi37 (xs := oneA) rfl)) (by assumption) ?_
  try simp only [Act.put, List.setIfInBounds_toArray, List.set_cons_zero, List.set_cons_succ]
  refine wpAnyH_take (i := 44) (oi := ({ dst := some 126, op := Go.Op.binOp Go.BinOp.eql 37 (Go.Operand.tmp 123) (Go.Operand.tmp 125) 37, type := 4, pos := "law.go:83", after := #[{ on := 41, ground := Go.Ground.data }, { on := 43, ground := Go.Ground.data }, { on := 38, ground := Go.Ground.guard }], guard := some (38, true) } : Oper)) (v := ?_) rfl (by kernel_rfl) (by kernel_rfl) (by kernel_rfl) (fun _ _ _ h => h) (Or.inl ⟨by rfl, ?_⟩) (by assumption) ?_
  rotate_left
  · (intro w hSw; (try dsimp only at hSw); go_simp; try with_reducible rfl)
  try simp only [Act.put, List.setIfInBounds_toArray, List.set_cons_zero, List.set_cons_succ]
  refine wpAnyH_take (i := 45) (oi := ({ dst := some 127, op := Go.Op.pick (Go.Operand.tmp 120) (Go.Operand.tmp 126) (Go.Operand.const (Go.Value.bool false)), type := 4, pos := "law.go:83", after := #[{ on := 38, ground := Go.Ground.data }, { on := 44, ground := Go.Ground.data }], guard := none } : Oper)) (v := ?_) rfl (by kernel_rfl) (by kernel_rfl) (by kernel_rfl) (fun _ _ _ h => h) (Or.inl ⟨by rfl, ?_⟩) (by assumption) ?_
  rotate_left
  · (intro w hSw; (try dsimp only at hSw); go_simp; try with_reducible rfl)
  try simp only [Act.put, List.setIfInBounds_toArray, List.set_cons_zero, List.set_cons_succ]
  refine wpAnyH_take (i := 46) (oi := ({ dst := some 128, op := Go.Op.move (Go.Operand.tmp 127), type := 4, pos := "law.go:83", after := #[{ on := 45, ground := Go.Ground.data }, { on := 38, ground := Go.Ground.chain }], guard := none } : Oper)) (v := ?_) rfl (by kernel_rfl) (by kernel_rfl) (by kernel_rfl) (fun _ _ _ h => h) (Or.inl ⟨by rfl, ?_⟩) (by assumption) ?_
  rotate_left
  · (intro w hSw; (try dsimp only at hSw); go_simp; try with_reducible rfl)
  try simp only [Act.put, List.setIfInBounds_toArray, List.set_cons_zero, List.set_cons_succ]
  refine wpAnyH_ready (rs := [47]) (by kernel_rfl) (by simp) ?_
  refine (AllReadyH.cons (o := ({ dst := some 129, op := Go.Op.call { callee := Go.Callee.value (Go.Operand.func 17), args := #[Go.Operand.const (Go.Value.slice none 0 0)], argTypes := #[22] }, type := 4, pos := "law.go:83", after := #[{ on := 46, ground := Go.Ground.chain }, { on := 46, ground := Go.Ground.guard }], guard := some (46, true) } : Oper)) rfl (fun K hK => ?_) AllReadyH.nil)
  go_simp
  (refine (V0.out _).mono ?_; rintro e w' ⟨rfl, hk⟩)
  go_wp2_with fail
  refine hK.out _ _ ?_ (fun hHeld1 => ?_)
  · (try dsimp only); first | exact (Keep.refl [] _).drew | exact Keep.trans' (by assumption) hk
  clear hK K
  try simp only [Act.put, List.setIfInBounds_toArray, List.set_cons_zero, List.set_cons_succ]
  refine wpAnyH_take (i := 48) (oi := ({ dst := some 130, op := Go.Op.pick (Go.Operand.tmp 128) (Go.Operand.tmp 129) (Go.Operand.const (Go.Value.bool false)), type := 4, pos := "law.go:83", after := #[{ on := 46, ground := Go.Ground.data }, { on := 47, ground := Go.Ground.data }], guard := none } : Oper)) (v := ?_) rfl (by kernel_rfl) (by kernel_rfl) (by kernel_rfl) (fun _ _ _ h => h) (Or.inl ⟨by rfl, ?_⟩) (by assumption) ?_
  rotate_left
  · (intro w hSw; (try dsimp only at hSw); go_simp; try with_reducible rfl)
  try simp only [Act.put, List.setIfInBounds_toArray, List.set_cons_zero, List.set_cons_succ]
  refine wpAnyH_take (i := 49) (oi := ({ dst := some 0, op := Go.Op.assign (Go.Operand.tmp 130), type := 4, pos := "law.go:83", after := #[{ on := 48, ground := Go.Ground.data }, { on := 47, ground := Go.Ground.chain }, { on := 0, ground := Go.Ground.phase }, { on := 1, ground := Go.Ground.phase }, { on := 2, ground := Go.Ground.phase }, { on := 3, ground := Go.Ground.phase }, { on := 4, ground := Go.Ground.phase }, { on := 5, ground := Go.Ground.phase }, { on := 6, ground := Go.Ground.phase }, { on := 7, ground := Go.Ground.phase }, { on := 8, ground := Go.Ground.phase }, { on := 9, ground := Go.Ground.phase }, { on := 10, ground := Go.Ground.phase }, { on := 11, ground := Go.Ground.phase }, { on := 12, ground := Go.Ground.phase }, { on := 13, ground := Go.Ground.phase }, { on := 14, ground := Go.Ground.phase }, { on := 15, ground := Go.Ground.phase }, { on := 16, ground := Go.Ground.phase }, { on := 17, ground := Go.Ground.phase }, { on := 18, ground := Go.Ground.phase }, { on := 19, ground := Go.Ground.phase }, { on := 20, ground := Go.Ground.phase }, { on := 21, ground := Go.Ground.phase }, { on := 22, ground := Go.Ground.phase }, { on := 23, ground := Go.Ground.phase }, { on := 24, ground := Go.Ground.phase }, { on := 25, ground := Go.Ground.phase }, { on := 26, ground := Go.Ground.phase }, { on := 27, ground := Go.Ground.phase }, { on := 28, ground := Go.Ground.phase }, { on := 29, ground := Go.Ground.phase }, { on := 30, ground := Go.Ground.phase }, { on := 31, ground := Go.Ground.phase }, { on := 32, ground := Go.Ground.phase }, { on := 33, ground := Go.Ground.phase }, { on := 34, ground := Go.Ground.phase }, { on := 35, ground := Go.Ground.phase }, { on := 36, ground := Go.Ground.phase }, { on := 37, ground := Go.Ground.phase }, { on := 38, ground := Go.Ground.phase }, { on := 39, ground := Go.Ground.phase }, { on := 40, ground := Go.Ground.phase }, { on := 41, ground := Go.Ground.phase }, { on := 42, ground := Go.Ground.phase }, { on := 43, ground := Go.Ground.phase }, { on := 44, ground := Go.Ground.phase }, { on := 45, ground := Go.Ground.phase }, { on := 46, ground := Go.Ground.phase }, { on := 47, ground := Go.Ground.phase }, { on := 48, ground := Go.Ground.phase }], guard := none } : Oper)) (v := ?_) rfl (by kernel_rfl) (by kernel_rfl) (by kernel_rfl) (fun _ _ _ h => h) (Or.inl ⟨by rfl, ?_⟩) (by assumption) ?_
  rotate_left
  · (intro w hSw; (try dsimp only at hSw); go_simp; try with_reducible rfl)
  try simp only [Act.put, List.setIfInBounds_toArray, List.set_cons_zero, List.set_cons_succ]
  refine wpAnyH_done (by kernel_rfl) ?_ _
  refine NoPanic.normal ?_
  go_wp2_with fail; go_returns; exact ⟨rfl, KK.out.trans' (by assumption : Keep [] w10 _)⟩
end Go.Proofs.Ytjdkeabimcajlaa

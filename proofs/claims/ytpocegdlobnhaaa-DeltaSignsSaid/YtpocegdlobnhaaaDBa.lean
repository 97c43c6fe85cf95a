/- A Hash's cells. -/
import Derived.Test.YtpocegdlobnhaaaIb
import Derived.Test.YtpocegdlobnhaaaDA
import Derived.BigFrame
set_option linter.unusedVariables false
set_option linter.unusedSimpArgs false
set_option maxRecDepth 100000
namespace Go.Proofs.Ytpocegdlobnhaaa.Dig
open Go.RowKit

def hashList (b : Bool) (st : List Int) (bl : List UInt8) (have_ total : Int) : List Value := [Value.bool b] ++ (u32s st ++ (bs bl ++ [Value.int .i64 have_, Value.int .u64 total]))
def hashCells (b : Bool) (st : List Int) (bl : List UInt8) (have_ total : Int) : Array Value := (hashList b st bl have_ total).toArray
theorem hash_byte {b : Bool} {st : List Int} {bl : List UInt8} {hv tot : Int} {k : Nat} {x : UInt8} (hst : st.length = 8) (hx : bl[k]? = some x) : (hashCells b st bl hv tot)[9 + k]? = some (B8 x) := by
  have hk := (List.getElem?_eq_some_iff.1 hx).1
  simp only [hashCells, hashList, List.getElem?_toArray]
  rw [List.getElem?_append_right (by simp <;> omega), List.getElem?_append_right (by simp [u32s, hst] <;> omega), List.getElem?_append_left (by simp [bs, u32s, hst] <;> omega)]
  simp only [bs, u32s, List.getElem?_map, List.length_map, List.length_cons, List.length_nil, hst]
  rw [show 9 + k - (0 + 1) - 8 = k by omega, hx]; rfl


theorem hash_word {b : Bool} {st : List Int} {bl : List UInt8} {hv tot : Int} {k : Nat} {x : Int} (hx : st[k]? = some x) : (hashCells b st bl hv tot)[1 + k]? = some (.int .u32 x) := by
  have hk := (List.getElem?_eq_some_iff.1 hx).1
  simp only [hashCells, hashList, List.getElem?_toArray]
  rw [List.getElem?_append_right (by simp), List.getElem?_append_left (by simp [u32s] <;> omega)]
  simp only [u32s, List.getElem?_map, List.length_cons, List.length_nil]
  rw [show 1 + k - (0 + 1) = k by omega, hx]; rfl
theorem hash_setWord {b : Bool} {st : List Int} {bl : List UInt8} {hv tot : Int} {k : Nat} {x : Int} (hk : k < st.length) : (hashCells b st bl hv tot).setIfInBounds (1 + k) (.int .u32 x) = hashCells b (st.set k x) bl hv tot := by
  apply Array.ext'
  simp only [hashCells, hashList, List.setIfInBounds_toArray]
  rw [List.set_append_right _ _ (by simp), List.set_append_left _ _ (by simp [u32s]; omega)]
  simp [u32s, List.map_set, show 1 + k - 1 = k by omega]
theorem u32s_set (ws : List Int) (k : Nat) (x : Int) : (u32s (ws.set k x)).toArray = (u32s ws).toArray.setIfInBounds k (.int .u32 x) := by
  apply Array.ext'; simp [u32s, List.map_set]

theorem _root_.Go.Proofs.Ytpocegdlobnhaaa.Blk.set8 {w : World} {p : Nat} {t : TypeId} {a b c d e f g h a' b' c' d' e' f' g' h' : Int} (hb : Blk w p (u32s [a, b, c, d, e, f, g, h]).toArray t) :
    Blk ((((((((w.setCell ⟨p, 0, none⟩ (.int .u32 a')).setCell ⟨p, 1, none⟩ (.int .u32 b')).setCell ⟨p, 2, none⟩ (.int .u32 c')).setCell ⟨p, 3, none⟩ (.int .u32 d')).setCell ⟨p, 4, none⟩ (.int .u32 e')).setCell ⟨p, 5, none⟩ (.int .u32 f')).setCell ⟨p, 6, none⟩ (.int .u32 g')).setCell ⟨p, 7, none⟩ (.int .u32 h'))
      p (u32s [a', b', c', d', e', f', g', h']).toArray t := by
  have := (((((((hb.set 0 (.int .u32 a')).set 1 (.int .u32 b')).set 2 (.int .u32 c')).set 3 (.int .u32 d')).set 4 (.int .u32 e')).set 5 (.int .u32 f')).set 6 (.int .u32 g')).set 7 (.int .u32 h')
  simpa [u32s] using this
theorem eight {st : List Int} (h : st.length = 8) : ∃ s0 s1 s2 s3 s4 s5 s6 s7, st = [s0, s1, s2, s3, s4, s5, s6, s7] := by
  match st, h with
  | [s0, s1, s2, s3, s4, s5, s6, s7], _ => exact ⟨s0, s1, s2, s3, s4, s5, s6, s7, rfl⟩

/-- The zero value of the type [64]uint32, its cells under one name. -/
theorem zero70 : ∃ Z : Array Value, Z.size = 64 ∧ ∀ w, (zeroValue 149).run Try.prog w = .ok (.agg Z) w := ⟨_, rfl, Try.zeroValue149⟩

end Go.Proofs.Ytpocegdlobnhaaa.Dig

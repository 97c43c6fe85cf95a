/- RollAlong: the windows gone through. -/
import Derived.Test.YtcbinihjbmgkdaaAl
set_option linter.unusedVariables false
set_option linter.unusedSimpArgs false
namespace Go.Proofs.Ytcbinihjbmgkdaa
open Go.RowKit

def sumL (xs : List UInt8) (n k : Nat) : List Value := (List.range k).map fun j => Value.int .i64 (sumOf (window xs n j))
theorem sumL_succ (xs : List UInt8) (n k : Nat) : sumL xs n (k + 1) = sumL xs n k ++ [.int .i64 (sumOf (window xs n k))] := by simp [sumL, List.range_succ]

structure AlSt (V : World) (po pu r g : Nat) (xs : List UInt8) (n k : Nat) (v : Value) (w : World) : Prop where
  ok : Blk w po #[.bool true] 4
  sums : Blk w pu #[v] 50
  sl : Sl w 3 1 v k (sumL xs n k)
  new : ∀ c ∈ blks v, V.heap.size ≤ c
  keep : Keep [po, pu, r, g] V w

theorem AlSt.stab {V w w' : World} {po pu r g n k : Nat} {xs : List UInt8} {v : Value} (h : AlSt V po pu r g xs n k v w) {S : List Nat} (hk : Keep S w w') (h1 : po ∉ S) (h2 : pu ∉ S) (h3 : ∀ c ∈ blks v, c ∉ S) (h4 : ∀ c ∈ S, V.heap.size ≤ c) : AlSt V po pu r g xs n k v w' :=
  ⟨h.ok.keep hk h1, h.sums.keep hk h2, h.sl.keep hk h3, h.new, h.keep.trans hk (fun c hc => Or.inr (h4 c hc))⟩

theorem window_split {xs : List UInt8} {n k : Nat} (h1 : 1 ≤ n) (hk : k + n ≤ xs.length) : ∃ x rest y, window xs n k = x :: rest ∧ (k + n < xs.length → window xs n (k + 1) = rest ++ [y] ∧ xs[k + n]? = some y) := by
  by_cases hlt : k + n < xs.length
  · obtain ⟨e1, e2, _⟩ := window_next xs n k h1 hlt
    exact ⟨_, _, _, e1, fun _ => ⟨e2, List.getElem?_eq_getElem hlt⟩⟩
  · have hl := window_len hk
    cases hw : window xs n k with
    | nil => rw [hw] at hl; simp at hl; omega
    | cons x rest => exact ⟨x, rest, 0, rfl, fun h => absurd h hlt⟩

theorem along_go (a : Option Addr) (l cap : Nat) (xs : List UInt8) (n : Nat) (qs qd gd : Nat) (W V : World) (h : InBytes W a l cap xs) (hkV : Keep [] W V) (hat : WinAt V qs qd gd n xs) (hlt : qs < V.heap.size ∧ qd < V.heap.size ∧ gd < V.heap.size)
    (po pu pr ps pd r g : Nat) (ho : Blk V po #[.bool true] 4) (hu : Blk V pu #[.slice none 0 0] 50) (hr : Blk V pr #[.pointer (some ⟨r, 0, none⟩)] 32) (hroll : RollAt V r g (window xs n 0))
    (hs : Blk V ps #[.int .i64 n] 3) (hd : Blk V pd #[.slice a l cap] 23)
    (hne : po ≠ pu ∧ po ≠ r ∧ po ≠ g ∧ pu ≠ r ∧ pu ≠ g) (hq : ps ∉ [po, pu, r, g] ∧ pd ∉ [po, pu, r, g] ∧ pr ∉ [po, pu, r, g]) (hqq : qs ∉ [po, pu, r, g] ∧ qd ∉ [po, pu, r, g] ∧ gd ∉ [po, pu, r, g])
    (hge : W.heap.size ≤ po ∧ W.heap.size ≤ pu ∧ W.heap.size ≤ r ∧ W.heap.size ≤ g) (hl : l ≤ 20000) (h1 : 1 ≤ n) (hnl : n ≤ l) :
    Calls Try.prog 31 #[.func (.func 23) #[] #[.pointer (some ⟨po, 0, none⟩), .pointer (some ⟨pu, 0, none⟩), .pointer (some ⟨pr, 0, none⟩), .pointer (some ⟨ps, 0, none⟩), .pointer (some ⟨pd, 0, none⟩)], .pointer (some ⟨qs, 0, none⟩), .pointer (some ⟨qd, 0, none⟩)] V
      fun e w' => e = .returned (.tuple #[]) ∧ ∃ v, AlSt V po pu r g xs n (l - n + 1) v w' := by
  have hlx := h.hlen
  have hle := h.hle
  have hreach := h.reach
  have hol := ho.lt
  have hul := hu.lt
  have hrl := hroll.lts
  have hsl := hs.lt
  have hdl := hd.lt
  have hrl' := hr.lt
  have call23 : ∀ (args : Array Value) (w : World), (callFunc 23 args).run Try.prog w = .ok (.enter 23 args) w := fun _ _ => rfl
  refine windows_some 23 _ qs qd gd n xs V (fun k sb w => V.heap.size ≤ sb ∧ RollAt w r g (window xs n k) ∧ ∃ v, AlSt V po pu r g xs n k v w ∧ sb ∉ blks v) (fun w => ∃ v, AlSt V po pu r g xs n (l - n + 1) v w)
    call23 hat hlt (by omega) (by omega) ?_ ?_ ?_
  · intro sb w hk h1' h2'
    exact ⟨h1', hroll.keep hk (by simp) (by simp), _, ⟨ho.keep hk (by simp), hu.keep hk (by simp), Sl.nil w 3 1, by simp [blks, Value.ownBlock], hk.mono (by simp)⟩, by simp [blks, Value.ownBlock]⟩
  · rintro k sb w w' ⟨h1', h2', v, h3', h4'⟩ hk
    refine ⟨h1', h2'.keep hk (by simp; omega) (by simp; omega), v, h3'.stab hk (by simp; omega) (by simp; omega) (fun c hc hx => ?_) (by simp; omega), h4'⟩
    simp at hx; subst hx; exact h4' hc
  · rintro k sb w hk hsb hsb2 ⟨_, h2', v, h3', h4'⟩
    simp only [Int.toNat_natCast] at hk ⊢
    obtain ⟨b, off, rfl, hrw⟩ := h.rd.window (k := k) (n := n) h1 hk
    have hbW : b < W.heap.size := h.rd.lt (k := 0) (by simp only [bs_length]; omega)
    obtain ⟨x, rest, y, e1, e2⟩ := window_split h1 hk
    have hkk := h3'.keep
    have hszw := hkk.size
    have hszV := hkV.size
    rw [e1] at h2' ⊢
    have hy : k + n < l → w.cell? ⟨b, off + (k + n), none⟩ = some (B8 y) := by
      intro hlt2
      obtain ⟨b2, o2, e3, _, hc⟩ := h.rd.byte? (e2 (by omega)).2
      simp only [Option.some.injEq, Addr.mk.injEq, and_true] at e3
      obtain ⟨rfl, rfl⟩ := e3
      exact hkk.cell (hkV.cell hc (by simp)) (by simp; omega)
    refine (along_any b off l cap po pu pr ps pd r g n k x rest v (sumL xs n k) w h3'.ok h3'.sums h3'.sl (hr.keep hkk hq.2.2) h2' (hs.keep hkk hq.1) (hd.keep hkk hq.2.1) hne ⟨hq.1, hq.2.1, hq.2.2, by simp; omega⟩
      (fun c hc => by have := h3'.new c hc; simp; omega) hl hle (by omega) h1 (by omega) y hy).mono ?_
    rintro e w' ⟨rfl, p1, ⟨v', p2, p3, p4⟩, p5, p6⟩
    have hslw := h3'.sl.lt
    have hnew : ∀ c ∈ blks v', V.heap.size ≤ c := by
      intro c hc
      rcases p4 with e | e
      · rw [e] at hc; exact h3'.new c hc
      · have := e c hc; omega
    have hsb' : sb ∉ blks v' := by
      intro hx
      rcases p4 with e | e
      · rw [e] at hx; exact h4' hx
      · have := e sb hx; omega
    have hst : AlSt V po pu r g xs n (k + 1) v' w' := by
      refine ⟨p1, p2, by rw [sumL_succ, e1]; exact p3, hnew, hkk.trans p6 (fun c hc => ?_)⟩
      rw [List.mem_append] at hc
      rcases hc with hc | hc
      · exact Or.inl hc
      · exact Or.inr (h3'.new c hc)
    refine ⟨true, rfl, ⟨[po, pu, r, g] ++ blks v, p6, ?_, ?_, ?_, ?_⟩, ?_⟩
    · rw [List.mem_append]; rintro (hx | hx)
      · simp at hx; omega
      · exact h4' hx
    · rw [List.mem_append]; rintro (hx | hx)
      · exact hqq.1 hx
      · have := h3'.new _ hx; omega
    · rw [List.mem_append]; rintro (hx | hx)
      · exact hqq.2.1 hx
      · have := h3'.new _ hx; omega
    · rw [List.mem_append]; rintro (hx | hx)
      · exact hqq.2.2 hx
      · have := h3'.new _ hx; omega
    · by_cases hl2 : k + 1 + n ≤ xs.length
      · rw [if_pos ⟨rfl, hl2⟩]
        obtain ⟨e3, _⟩ := e2 (by omega)
        exact ⟨hsb, by rw [e3]; exact p5 (by omega), v', hst, hsb'⟩
      · rw [if_neg (by simp; omega)]
        have e4 : k + 1 = l - n + 1 := by omega
        exact ⟨v', e4 ▸ hst⟩
end Go.Proofs.Ytcbinihjbmgkdaa

/- A row of bytes that lies somewhere: kept. No program in sight. -/
import Derived.Test.YtpocegdlobnhaaaSm
import Derived.Test.YtpocegdlobnhaaaOpenE
set_option linter.unusedVariables false
namespace Go.Proofs.Ytpocegdlobnhaaa
open Go.RowKit
theorem InBytes.keep {w w' : World} {a : Option Addr} {l c : Nat} {xs : List UInt8} {S : List Nat} (h : InBytes w a l c xs) (k : Keep S w w') (hS : xs ≠ [] → ablk a ∉ S) : InBytes w' a l c xs :=
  ⟨h.hlen, h.rd.keep k (fun e => hS (by intro e'; subst e'; exact e rfl)), h.hle, h.hnil, h.reach, h.short⟩
theorem InBytes.blk {w : World} {a : Option Addr} {l c : Nat} {xs : List UInt8} (h : InBytes w a l c xs) (hx : xs ≠ []) : ablk a < w.heap.size := by
  have : 0 < (bs xs).length := by rw [bs_length]; exact List.length_pos_iff.2 hx
  exact h.rd.lt this
end Go.Proofs.Ytpocegdlobnhaaa

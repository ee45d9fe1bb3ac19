/-
  A lane and the reference's, both new.
-/
import Derived.Test.YtekljcgljoianaaLaneJ
import Derived.Test.YtekljcgljoianaaRows
namespace Go.Proofs.Ytekljcgljoianaa
open Go.RowKit Go.WideShapes Go.ChangeShapes
set_option linter.unusedVariables false

def X3 (n : Nat) (k : Nat) : Prop := k = n + 1 ∨ k = n ∨ k = n + 2
theorem X3_from {n B k : Nat} (hB : B ≤ n) (h : X3 n k) : B ≤ k := by rcases h with rfl | rfl | rfl <;> omega
theorem LS.new_fine {n : Nat} (h1 : 1 ≤ n) (h2 : n ≤ 1000) : (LS.new n).fine := ⟨⟨h1, h2⟩, by simp [LS.new], by simp [LS.new], by simp [LS.new], by simp [LS.new], by simp [LS.new]⟩
theorem mkBoth {w w' : World} {n r : Nat} (hl : LaneAt w (X3 n) (n + 1) n (LS.new r)) (hb : Below w.heap.size w w') (hr : RefAt w' (X3 n) (n + 2) (LS.new r)) (h1 : 1 ≤ r) (h2 : r ≤ 1000) : Both w' (X3 n) (n + 1) n (n + 2) (LS.new r) :=
  ⟨hl.chg (Chg.below (X := X3 n) hb) (hb.block _ hl.size.1) (hb.block _ hl.size.2.1), hr, LS.new_fine h1 h2, .inl rfl, .inr (.inl rfl), .inr (.inr rfl), fun k hk => hk, by omega, by omega⟩
end Go.Proofs.Ytekljcgljoianaa

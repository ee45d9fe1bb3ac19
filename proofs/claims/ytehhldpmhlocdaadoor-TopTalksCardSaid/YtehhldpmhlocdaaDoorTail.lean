/-
  A region that draws its order, whose operations but the last ones only read.
-/
import Derived.Test.YtehhldpmhlocdaaDoorBase
import Derived.Deep.RegionHeld3
import Derived.StillTailTactics
namespace Go.Proofs.YtehhldpmhlocdaaDoor
open Go.RowKit

theorem still_of_quiet {P : Program} {ops : Array Oper} {u : World} {Q : Act → Prop} : ∀ (l : List Oper) (a : Act), wpQuiet P ops (fun w' => w' = u) Q l a → wpStill P ops u Q l a
  | [], _, h => h
  | o :: l, a, h => by
    unfold wpQuiet at h
    unfold wpStill
    split
    · rename_i hw
      rw [if_pos hw] at h
      obtain ⟨v, h1, h2⟩ := h
      have h3 := h1 u rfl
      unfold Oper.quietAt at h3
      unfold Oper.still
      generalize (execOp a.eval o).run P u = r at h3 ⊢
      have ih := still_of_quiet l (a.put o.dst v) h2
      cases r with
      | ok n w' =>
        cases n <;> simp only [Oper.quietUpon] at h3 <;> simp only [Oper.stillUpon]
        case value x => obtain ⟨e1, rfl⟩ := h3; exact ⟨e1, ih⟩
        case skip => obtain ⟨e1, rfl⟩ := h3; exact ⟨e1, ih⟩
        case enter f args => exact ⟨h3.1, v, h3.2, ih⟩
      | halt x w' => simp only [Oper.quietUpon] at h3
    · rename_i hw
      rw [if_neg hw] at h
      exact still_of_quiet l _ h

/-- A region that draws its order, whose operations but the last ones only read: one walk, then the last ones. -/
theorem wp_region_tail {P : Program} {id : Nat} {Q : Exit → Act → World → Prop} {a : Act} {w : World} {l : List Oper} (n : Nat) (hm : P.follows .mixedOrders = true) (hB : Region.lexTailB .any l.toArray n = true)
    (h : ∀ u : World, u = w.drew → wpQuiet P l.toArray (fun w' => w' = u) (fun a' => wpList P l.toArray Q (l.drop n) a' u) (l.take n) a) : (Code.region id l.toArray true).wp P Q a w :=
  wp_region_still_tail n hm hB (still_of_quiet _ _ (h w.drew rfl))

end Go.Proofs.YtehhldpmhlocdaaDoor

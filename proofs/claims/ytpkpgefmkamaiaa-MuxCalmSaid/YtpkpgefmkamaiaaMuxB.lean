/-
  A link's mux: its rules.
-/
import Derived.Test.YtpkpgefmkamaiaaMuxA
namespace Go.Proofs.Ytpkpgefmkamaiaa
open Go.RowKit
set_option linter.unusedVariables false

theorem still_of_quiet {P : Program} {ops : Array Oper} {u : World} {Q : Act → Prop} : ∀ (l : List Oper) (a : Act), wpQuiet P ops (fun w' => w' = u) Q l a → wpStill P ops u Q l a
  | [], _, h => h
  | o :: l, a, h => by
    unfold wpQuiet at h
    unfold wpStill
    split
    · rename_i hw
      rw [if_pos hw] at h
      obtain ⟨v, h1, h2⟩ := h
      have h3 := h1 u rfl
      unfold Oper.quietAt at h3
      unfold Oper.still
      generalize (execOp a.eval o).run P u = r at h3 ⊢
      have ih := still_of_quiet l (a.put o.dst v) h2
      cases r with
      | ok n w' =>
        cases n <;> simp only [Oper.quietUpon] at h3 <;> simp only [Oper.stillUpon]
        case value x => obtain ⟨e1, rfl⟩ := h3; exact ⟨e1, ih⟩
        case skip => obtain ⟨e1, rfl⟩ := h3; exact ⟨e1, ih⟩
        case enter f args => exact ⟨h3.1, v, h3.2, ih⟩
      | halt x w' => simp only [Oper.quietUpon] at h3
    · rename_i hw
      rw [if_neg hw] at h
      exact still_of_quiet l _ h

/-- A region that draws its order, whose operations but the last ones only read: one walk, then the last ones. -/
theorem wp_region_tail {P : Program} {id : Nat} {Q : Exit → Act → World → Prop} {a : Act} {w : World} {l : List Oper} (n : Nat) (hm : P.follows .mixedOrders = true) (hB : Region.lexTailB .any l.toArray n = true)
    (h : ∀ u : World, u = w.drew → wpQuiet P l.toArray (fun w' => w' = u) (fun a' => wpList P l.toArray Q (l.drop n) a' u) (l.take n) a) : (Code.region id l.toArray true).wp P Q a w :=
  wp_region_still_tail n hm hB (still_of_quiet _ _ (h w.drew rfl))


def ruleB (sel : Bool) (s f p now : Int) : Nat → Bool
  | 0 => !sel && !(s == 0)
  | 1 => sel && (s == 0)
  | 2 => (s == 1) && decide (2 ≤ now - f)
  | 3 => ((s == 3) || (s == 4)) && !hasB p 8
  | 4 => (s == 4) && !hasB p 16
  | 5 => (s == 2) && hasB p 8
  | 6 => (s == 3) && hasB p 16
  | _ => false
def ruleT : Nat → Int
  | 0 => 0
  | 1 => 1
  | 2 => 2
  | 3 => 2
  | 4 => 3
  | 5 => 3
  | _ => 4
def ruleCells (sel : Bool) (s f p now : Int) : Array Value :=
  #[.bool (ruleB sel s f p now 0), .int .i64 0, .bool (ruleB sel s f p now 1), .int .i64 1, .bool (ruleB sel s f p now 2), .int .i64 2, .bool (ruleB sel s f p now 3), .int .i64 2, .bool (ruleB sel s f p now 4), .int .i64 3,
    .bool (ruleB sel s f p now 5), .int .i64 3, .bool (ruleB sel s f p now 6), .int .i64 4]
/-- What rules leaves: a new row of seven. -/
def RulesPost (sel : Bool) (s f p now : Int) (w : World) (e : Ending) (w' : World) : Prop :=
  ∃ g : Nat, e = .returned (.slice (some ⟨g, 0, none⟩) 7 7) ∧ Below w.heap.size w w' ∧ w.heap.size ≤ g ∧ w'.heap[g]? = some (.cells (ruleCells sel s f p now) 45 (0, 0))
end Go.Proofs.Ytpkpgefmkamaiaa

/-
  A link's mux: New, State, Bits, and the two closures of its rules.
-/
import Derived.Test.YtpkpgefmkamaiaaRows
import Derived.Test.YtpkpgefmkamaiaaBase
import Derived.Deep.RegionHeld3
import Derived.StillTailTactics
namespace Go.Proofs.Ytpkpgefmkamaiaa
open Go.RowKit
set_option linter.unusedVariables false

theorem own : ownKnob Try.prog.godebug = none := by kernel_rfl
theorem laidOut : laidOutB Try.prog = true := by kernel_rfl

theorem new_any (w : World) : Calls Try.prog 9 #[] w fun e w' => e = .returned (.pointer (some ⟨w.heap.size, 0, none⟩)) ∧ w.alloc (.cells #[.int .i64 0, .int .i64 0] 41) = w' := by
  go_enter Try.func9, Try.ntmps9
  go_wp2
  go_ret
  exact ⟨rfl, rfl⟩
theorem refNew_any (w : World) : Calls Try.prog 10 #[] w fun e w' => e = .returned (.pointer (some ⟨w.heap.size, 0, none⟩)) ∧ w.alloc (.cells #[.int .i64 0, .int .i64 0] 35) = w' := by
  go_enter Try.func10, Try.ntmps10
  go_wp2
  go_ret
  exact ⟨rfl, rfl⟩
theorem state_any (g : Nat) (s : Int) (w : World) (hc : w.cell? ⟨g, 0, none⟩ = some (.int .i64 s)) : Calls Try.prog 13 #[.pointer (some ⟨g, 0, none⟩)] w fun e w' => e = .returned (.int .i64 s) ∧ w = w' := by
  go_enter Try.func13, Try.ntmps13
  go_wp2
  go_ret
  exact ⟨rfl, rfl⟩

/-- What is told of a state. -/
def bitsS (s : Int) : Int := if s = 4 then 56 else if s = 3 then 24 else if s = 2 then 8 else 0

theorem bits_any (g : Nat) (s : Int) (w : World) (hc : w.cell? ⟨g, 0, none⟩ = some (.int .i64 s)) (hs : 0 ≤ s ∧ s ≤ 4) : Calls Try.prog 14 #[.pointer (some ⟨g, 0, none⟩)] w fun e w' => e = .returned (.int .i64 (bitsS s)) ∧ w = w' := by
  have b1 : bits .or .i64 0 32 = 32 := by decide
  have b2 : bits .or .i64 32 16 = 48 := by decide
  have b3 : bits .or .i64 48 8 = 56 := by decide
  have b4 : bits .or .i64 0 16 = 16 := by decide
  have b5 : bits .or .i64 16 8 = 24 := by decide
  have b6 : bits .or .i64 0 8 = 8 := by decide
  rcases (show s = 0 ∨ s = 1 ∨ s = 2 ∨ s = 3 ∨ s = 4 by omega) with rfl | rfl | rfl | rfl | rfl
  all_goals
    clear hs
    go_enter Try.func14, Try.ntmps14
    go_wp2
    go_ret
    exact ⟨rfl, rfl⟩
theorem refBits_any (g : Nat) (s : Int) (w : World) (hc : w.cell? ⟨g, 0, none⟩ = some (.int .i64 s)) (hs : 0 ≤ s ∧ s ≤ 4) : Calls Try.prog 15 #[.pointer (some ⟨g, 0, none⟩)] w fun e w' => e = .returned (.int .i64 (bitsS s)) ∧ w = w' := by
  rcases (show s = 0 ∨ s = 1 ∨ s = 2 ∨ s = 3 ∨ s = 4 by omega) with rfl | rfl | rfl | rfl | rfl
  all_goals
    clear hs
    go_enter Try.func15, Try.ntmps15
    go_wp2
    go_ret
    exact ⟨rfl, rfl⟩

/-- Has a number a bit? -/
def hasB (p b : Int) : Bool := bits .and .i64 p b != 0

theorem has_any (a : Addr) (p b : Int) (w : World) (hc : w.cell? a = some (.int .i64 p)) : Calls Try.prog 19 #[.int .i64 b, .pointer (some a)] w fun e w' => e = .returned (.bool (hasB p b)) ∧ w' = w := by
  go_enter Try.func19, Try.ntmps19
  go_wp2
  go_ret
  exact ⟨rfl, rfl⟩
theorem is_any (a : Addr) (g : Nat) (s k : Int) (w : World) (hp : w.cell? a = some (.pointer (some ⟨g, 0, none⟩))) (hc : w.cell? ⟨g, 0, none⟩ = some (.int .i64 s)) : Calls Try.prog 20 #[.int .i64 k, .pointer (some a)] w fun e w' => e = .returned (.bool (s == k)) ∧ w' = w := by
  go_enter Try.func20, Try.ntmps20
  go_wp2
  go_ret
  exact ⟨rfl, rfl⟩
end Go.Proofs.Ytpkpgefmkamaiaa

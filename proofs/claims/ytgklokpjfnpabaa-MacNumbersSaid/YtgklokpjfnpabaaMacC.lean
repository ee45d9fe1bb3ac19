/-
  The statements' own first step: an address that bridges keep.
-/
import Derived.Test.YtgklokpjfnpabaaMacB
namespace Go.Proofs.Ytgklokpjfnpabaa
open Go.RowKit
set_option linter.unusedVariables false

theorem own : ownKnob Try.prog.godebug = none := by kernel_rfl
theorem laidOut : laidOutB Try.prog = true := by kernel_rfl
theorem cells23 : Try.prog.cellsOf 23 = 6 := by kernel_rfl
theorem cellTypes23 : Try.prog.cellTypes Try.prog.depth 23 = some [5, 5, 5, 5, 5, 5] := by kernel_rfl

theorem readable23 : Try.prog.readableRec 23 = true ∧ 23 < Try.prog.types.size := ⟨by kernel_rfl, of_decide_eq_true (by kernel_rfl)⟩
theorem readable26 : Try.prog.readableRec 26 = true ∧ 26 < Try.prog.types.size := ⟨by kernel_rfl, of_decide_eq_true (by kernel_rfl)⟩
theorem readable9 : Try.prog.readableRec 9 = true ∧ 9 < Try.prog.types.size := ⟨by kernel_rfl, of_decide_eq_true (by kernel_rfl)⟩

theorem txt_awake : txt6 1 128 194 0 0 14 = [48, 49, 58, 56, 48, 58, 99, 50, 58, 48, 48, 58, 48, 48, 58, 48, 101] := by decide +kernel
theorem num_awake : num6 1 128 194 0 0 14 = 1652522221582 := by decide +kernel
theorem kept_awake : kept6 1 128 194 0 0 14 = true := by decide +kernel

set_option maxHeartbeats 1000000 in
theorem awake_any (w : World) : Calls Try.prog 10 #[] w fun e w' => e = .returned (.bool true) ∧ Below w.heap.size w w' := by
  have T := fun u => text_any 1 128 194 0 0 14 u (by decide) (by decide) (by decide) (by decide) (by decide) (by decide)
  have R := fun u => reserved_any 1 128 194 0 0 14 u (by decide) (by decide) (by decide) (by decide) (by decide) (by decide)
  have G := fun u => group_any 1 128 194 0 0 14 u (by decide) (by decide) (by decide) (by decide) (by decide) (by decide)
  have N := fun u => number_any 1 128 194 0 0 14 u (by decide) (by decide) (by decide) (by decide) (by decide) (by decide)
  rw [txt_awake] at T
  rw [kept_awake] at R
  rw [num_awake] at N
  have HT := hide T; have HR := hide R; have HG := hide G; have HN := hide N
  clear T R G N
  go_enter Try.func10, Try.ntmps10
  go_wp2_with fail
  refine (HT.out _).mono ?_
  rintro e w1 ⟨rfl, hb1⟩
  have hc1 : ∀ o, w1.cell? ⟨w.heap.size, o, none⟩ = (w.alloc (.cells #[.int .u8 1, .int .u8 128, .int .u8 194, .int .u8 0, .int .u8 0, .int .u8 14] 23)).cell? ⟨w.heap.size, o, none⟩ := fun o => hb1.cell (by simp)
  go_wp2_with fail
  refine (HR.out _).mono ?_
  rintro e w2 ⟨rfl, hb2⟩
  have hb12 := hb1.trans (hb2.mono hb1.size)
  have hc2 : ∀ o, w2.cell? ⟨w.heap.size, o, none⟩ = (w.alloc (.cells #[.int .u8 1, .int .u8 128, .int .u8 194, .int .u8 0, .int .u8 0, .int .u8 14] 23)).cell? ⟨w.heap.size, o, none⟩ := fun o => hb12.cell (by simp)
  clear hc1
  go_wp2_with fail
  refine (HG.out _).mono ?_
  rintro e w3 ⟨rfl, rfl⟩
  have hsz2 := hb12.size
  simp at hsz2
  have hc3 : ∀ (o : Nat) (ob : Obj), (w2.alloc ob).cell? ⟨w.heap.size, o, none⟩ = (w.alloc (.cells #[.int .u8 1, .int .u8 128, .int .u8 194, .int .u8 0, .int .u8 0, .int .u8 14] 23)).cell? ⟨w.heap.size, o, none⟩ := fun o ob => (World.cell?_alloc_lt w2 ob ⟨w.heap.size, o, none⟩ (by simp; omega)).trans (hc2 o)
  clear hc2
  go_wp2_with fail
  refine (HN.out _).mono ?_
  rintro e w4 ⟨rfl, rfl⟩
  clear hc3
  go_wp2
  go_ret
  exact ⟨rfl, ((((Below.refl w.heap.size w).alloc (Nat.le_refl _) _).trans (hb12.mono (by simp))).alloc (by omega) _).alloc (by simp; omega) _⟩

/-! ### The contracts once more, of the world saying but that below nothing has turned -/
theorem numberB (x0 x1 x2 x3 x4 x5 : Int) (w : World) (hx0 : 0 ≤ x0 ∧ x0 < 256) (hx1 : 0 ≤ x1 ∧ x1 < 256) (hx2 : 0 ≤ x2 ∧ x2 < 256) (hx3 : 0 ≤ x3 ∧ x3 < 256) (hx4 : 0 ≤ x4 ∧ x4 < 256) (hx5 : 0 ≤ x5 ∧ x5 < 256) : Calls Try.prog 13 #[.agg #[.int .u8 x0, .int .u8 x1, .int .u8 x2, .int .u8 x3, .int .u8 x4, .int .u8 x5]] w fun e w' => e = .returned (.int .u64 (num6 x0 x1 x2 x3 x4 x5)) ∧ Below w.heap.size w w' :=
  (number_any x0 x1 x2 x3 x4 x5 w hx0 hx1 hx2 hx3 hx4 hx5).mono fun _ _ ⟨h1, h2⟩ => ⟨h1, h2 ▸ (Below.refl _ _).alloc (Nat.le_refl _) _⟩
theorem groupB (x0 x1 x2 x3 x4 x5 : Int) (w : World) (hx0 : 0 ≤ x0 ∧ x0 < 256) (hx1 : 0 ≤ x1 ∧ x1 < 256) (hx2 : 0 ≤ x2 ∧ x2 < 256) (hx3 : 0 ≤ x3 ∧ x3 < 256) (hx4 : 0 ≤ x4 ∧ x4 < 256) (hx5 : 0 ≤ x5 ∧ x5 < 256) : Calls Try.prog 15 #[.agg #[.int .u8 x0, .int .u8 x1, .int .u8 x2, .int .u8 x3, .int .u8 x4, .int .u8 x5]] w fun e w' => e = .returned (.bool (x0 % 2 == 1)) ∧ Below w.heap.size w w' :=
  (group_any x0 x1 x2 x3 x4 x5 w hx0 hx1 hx2 hx3 hx4 hx5).mono fun _ _ ⟨h1, h2⟩ => ⟨h1, h2 ▸ (Below.refl _ _).alloc (Nat.le_refl _) _⟩
end Go.Proofs.Ytgklokpjfnpabaa

/-
  Proved: MacTexts: at every address the program's text, number, kind and 'kept' are the reference's, and the law answers true.
  No condition.
-/
import Derived.Test.YtgklokpjfnpabaaMacC
namespace Go.Proofs.Ytgklokpjfnpabaa
open Go.RowKit Go.ChangeShapes Go.WideShapes Go.ChangeAt
set_option linter.unusedVariables false

set_option maxHeartbeats 1000000 in
theorem macTexts_any (x0 x1 x2 x3 x4 x5 : Int) (w : World) (hx0 : 0 ≤ x0 ∧ x0 < 256) (hx1 : 0 ≤ x1 ∧ x1 < 256) (hx2 : 0 ≤ x2 ∧ x2 < 256) (hx3 : 0 ≤ x3 ∧ x3 < 256) (hx4 : 0 ≤ x4 ∧ x4 < 256) (hx5 : 0 ≤ x5 ∧ x5 < 256) :
    Calls Try.prog 3 #[.agg #[.int .u8 x0, .int .u8 x1, .int .u8 x2, .int .u8 x3, .int .u8 x4, .int .u8 x5]] w fun e w' => e = .returned (.bool true) ∧ Below w.heap.size w w' := by
  have T := hide (fun u => text_any x0 x1 x2 x3 x4 x5 u hx0 hx1 hx2 hx3 hx4 hx5)
  have T' := hide (fun u => refText_any x0 x1 x2 x3 x4 x5 u hx0 hx1 hx2 hx3 hx4 hx5)
  have N := hide (fun u => number_any x0 x1 x2 x3 x4 x5 u hx0 hx1 hx2 hx3 hx4 hx5)
  have N' := hide (fun u => refNumber_any x0 x1 x2 x3 x4 x5 u hx0 hx1 hx2 hx3 hx4 hx5)
  have G := hide (fun u => group_any x0 x1 x2 x3 x4 x5 u hx0 hx1 hx2 hx3 hx4 hx5)
  have G' := hide (fun u => refGroup_any x0 x1 x2 x3 x4 x5 u hx0 hx1 hx2 hx3 hx4 hx5)
  have R := hide (fun u => reserved_any x0 x1 x2 x3 x4 x5 u hx0 hx1 hx2 hx3 hx4 hx5)
  have R' := hide (fun u => refReserved_any x0 x1 x2 x3 x4 x5 u hx0 hx1 hx2 hx3 hx4 hx5)
  clear hx0 hx1 hx2 hx3 hx4 hx5
  go_enter Try.func3, Try.ntmps3
  go_wp2_with fail
  refine (awake_any _).mono ?_
  rintro e w1 ⟨rfl, hb1⟩
  have hc1 : ∀ o, w1.cell? ⟨w.heap.size, o, none⟩ = (w.alloc (.cells #[.int .u8 x0, .int .u8 x1, .int .u8 x2, .int .u8 x3, .int .u8 x4, .int .u8 x5] 23)).cell? ⟨w.heap.size, o, none⟩ := fun o => hb1.cell (by simp)
  have hsz : w.heap.size < w1.heap.size := by have := hb1.size; simp at this; omega
  go_wp2_with fail
  refine wp_region_class (by kernel_rfl) (by kernel_rfl) (fun C hC hS hN => ?_)
  have hx : ∀ (u : Of C) (o : Nat), u.w.cell? ⟨w.heap.size, o, none⟩ = (w.alloc (.cells #[.int .u8 x0, .int .u8 x1, .int .u8 x2, .int .u8 x3, .int .u8 x4, .int .u8 x5] 23)).cell? ⟨w.heap.size, o, none⟩ := fun u o => ((hC _ u.ok).cell (by exact hsz)).trans (hc1 o)
  have HS := hide hS; have HC := hide hC; clear hS hC
  repeat (go_big_quiet_step ((first
    | (go_at_call 11; exact Calls.of_class HS.out (T.out _))
    | (go_at_call 12; exact Calls.of_class HS.out (T'.out _))
    | (go_at_call 13; exact Calls.of_class HS.out ((N.out _).mono fun e w' ⟨h1, h2⟩ => ⟨h1, h2 ▸ (Below.refl _ _).alloc (Nat.le_refl _) _⟩))
    | (go_at_call 14; exact Calls.of_class HS.out ((N'.out _).mono fun e w' ⟨h1, h2⟩ => ⟨h1, h2 ▸ (Below.refl _ _).alloc (Nat.le_refl _) _⟩))
    | (go_at_call 15; exact Calls.of_class HS.out ((G.out _).mono fun e w' ⟨h1, h2⟩ => ⟨h1, h2 ▸ (Below.refl _ _).alloc (Nat.le_refl _) _⟩))
    | (go_at_call 16; exact Calls.of_class HS.out ((G'.out _).mono fun e w' ⟨h1, h2⟩ => ⟨h1, h2 ▸ (Below.refl _ _).alloc (Nat.le_refl _) _⟩))
    | (go_at_call 17; exact Calls.of_class HS.out (R.out _))
    | (go_at_call 18; exact Calls.of_class HS.out (R'.out _)))))
  refine wpQuiet_nil ?_
  intro u hu
  clear hx
  go_wp2
  go_ret
  exact ⟨rfl, ((Below.refl w.heap.size w).alloc (Nat.le_refl _) _).trans ((hb1.mono (by simp)).trans (hu.mono (by omega)))⟩

/-! ### The row -/
set_option maxRecDepth 100000 in
theorem macTexts_lifted (os : Os) (started : os.Started) (H : Type) (enc : TypeId × Value → H) :
    ReturnsInHanded {} Try.checked os 3 .any (Rows.macTextsSpec.pre6 enc Try.prog Try.f3 Rows.macTextsRow.domain false) (Rows.macTextsSpec.post enc Try.prog Try.f3 false true false false) := by
  refine returnsInHanded_of_change (C := Try.checked) own started (by kernel_rfl) Try.func3
    (ChangeSpec.witness6 (enc := enc) (C := Try.checked) false ⟨#[], #[.agg #[.int .u8 0, .int .u8 0, .int .u8 0, .int .u8 0, .int .u8 0, .int .u8 0]], []⟩ 8 (by kernel_rfl) (by kernel_rfl) (by kernel_rfl) (by kernel_rfl)) ?_
  intro W base args ds gs before hval0 hW hcnd _
  have hval : ∀ (j : Nat) t v, Try.f3.params[j]? = some t → args[j]? = some v → Value.okWide Try.prog W .any base t v := hval0
  have hW' : DataW.Whole enc Try.prog Try.f3.params.toList Rows.macTextsSpec.vars false W args.toList ds gs before := hW
  have hlen : args.toList.length = Try.f3.params.toList.length ∧ ds.length = Try.f3.params.toList.length := by
    obtain ⟨p, q, hA, _⟩ := hW'
    exact trodAll_len _ _ _ _ hA
  rw [Try.params3] at hval hlen
  obtain ⟨p0, rfl⟩ := args1 args hlen.1
  obtain ⟨d0, rfl⟩ := list1 ds hlen.2
  obtain rfl : gs = [] := by
    obtain ⟨p, q, _, hV, _⟩ := hW'
    exact (trodVars_none hV).1
  obtain ⟨x0, x1, x2, x3, x4, x5, rfl, hx0, hx1, hx2, hx3, hx4, hx5⟩ := open_mac Try.underlying23 Try.underlying5 cells23 cellTypes23 (hval 0 23 p0 rfl rfl)
  refine (macTexts_any x0 x1 x2 x3 x4 x5 W hx0 hx1 hx2 hx3 hx4 hx5).mono fun e W' ⟨he, hb⟩ => ?_
  subst he
  have hp : ∀ t ∈ Try.f3.params.toList, Try.prog.readableRec t = true ∧ t < Try.prog.types.size := by
    rw [Try.params3]
    intro t ht
    simp at ht
    rcases ht with rfl
    all_goals first | exact readable23
  have hpost := law_post (enc := enc) (P := Try.prog) (f := Try.f3) (s := Rows.macTextsSpec) (tb := 4) (W' := W') laidOut hW' rfl (by kernel_rfl) Try.underlying4 hp ⟨rfl, rfl, rfl⟩ hb
  exact ⟨_, rfl, hpost⟩

theorem macTexts_holds : Rows.MacTextsSaid :=
  OpenClaim.holds_of_wide 3 Try.f3 rfl rfl rfl rfl rfl rfl rfl ⟨rfl, rfl, rfl, rfl, rfl⟩ rfl rfl rfl rfl rfl (by kernel_rfl) Try.func3 (by kernel_rfl)
    (of_decide_eq_true (by kernel_rfl)) (by unfold Func.isWrapper; first | (rw [if_pos (by decide +kernel)]; kernel_rfl) | (rw [if_neg (by decide +kernel)]; exact ⟨rfl, rfl⟩))
    (fun os started H enc _ => macTexts_lifted os started H enc)
#print axioms macTexts_holds
end Go.Proofs.Ytgklokpjfnpabaa

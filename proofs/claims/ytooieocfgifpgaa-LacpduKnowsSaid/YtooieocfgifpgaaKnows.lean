/-
  Proved: LacpduKnows: whether one end knows the other one, and which system is ahead: the program's answers and the reference's are the same; the law answers true.
  No condition.
-/
import Derived.Test.YtooieocfgifpgaaLpL
namespace Go.Proofs.Ytooieocfgifpgaa
open Go.RowKit Go.ChangeShapes Go.WideShapes Go.ChangeAt
set_option linter.unusedVariables false

set_option maxRecDepth 100000 in
set_option maxHeartbeats 4000000 in
theorem lacpduKnows_any (x y : Inf) (w : World) (hx : x.wf) (hy : y.wf) : Calls Try.prog 5 #[.agg #[.int .i64 x.sp, .int .u8 x.m0, .int .u8 x.m1, .int .u8 x.m2, .int .u8 x.m3, .int .u8 x.m4, .int .u8 x.m5, .int .i64 x.key, .int .i64 x.pp, .int .i64 x.port, .int .i64 x.st], .agg #[.int .i64 y.sp, .int .u8 y.m0, .int .u8 y.m1, .int .u8 y.m2, .int .u8 y.m3, .int .u8 y.m4, .int .u8 y.m5, .int .i64 y.key, .int .i64 y.pp, .int .i64 y.port, .int .i64 y.st]] w fun e w' => e = .returned (.bool true) ∧ Below w.heap.size w w' := by
  have HB0 := hide (heap_alloc_new w (.cells #[.int .i64 x.sp, .int .u8 x.m0, .int .u8 x.m1, .int .u8 x.m2, .int .u8 x.m3, .int .u8 x.m4, .int .u8 x.m5, .int .i64 x.key, .int .i64 x.pp, .int .i64 x.port, .int .i64 x.st] 25))
  have HB0' := hide (heap_alloc_new (w.alloc (.cells #[.int .i64 x.sp, .int .u8 x.m0, .int .u8 x.m1, .int .u8 x.m2, .int .u8 x.m3, .int .u8 x.m4, .int .u8 x.m5, .int .i64 x.key, .int .i64 x.pp, .int .i64 x.port, .int .i64 x.st] 25)) (.cells #[.int .i64 y.sp, .int .u8 y.m0, .int .u8 y.m1, .int .u8 y.m2, .int .u8 y.m3, .int .u8 y.m4, .int .u8 y.m5, .int .i64 y.key, .int .i64 y.pp, .int .i64 y.port, .int .i64 y.st] 25))
  have HX := hide hx; have HY := hide hy
  clear hx hy
  go_enter Try.func5, Try.ntmps5
  go_wp2_with fail
  refine (awake_any _).mono ?_
  rintro e w1 ⟨rfl, hb1⟩
  have hz1 := hb1.size
  simp at hz1
  have hw1 : w.heap.size + 1 < w1.heap.size := by omega
  have HB1 := hide ((((Below.refl w.heap.size w).alloc (Nat.le_refl _) (.cells #[.int .i64 x.sp, .int .u8 x.m0, .int .u8 x.m1, .int .u8 x.m2, .int .u8 x.m3, .int .u8 x.m4, .int .u8 x.m5, .int .i64 x.key, .int .i64 x.pp, .int .i64 x.port, .int .i64 x.st] 25)).alloc (by simp) (.cells #[.int .i64 y.sp, .int .u8 y.m0, .int .u8 y.m1, .int .u8 y.m2, .int .u8 y.m3, .int .u8 y.m4, .int .u8 y.m5, .int .i64 y.key, .int .i64 y.pp, .int .i64 y.port, .int .i64 y.st] 25)).trans (hb1.mono (by simp; omega)))
  have HK1 := hide ((hb1.block w.heap.size (by simp; omega)).trans ((Below.heap_alloc _ _ _ (by simp)).trans HB0.out))
  have HK1' := hide (show w1.heap[w.heap.size + 1]? = some (.cells #[.int .i64 y.sp, .int .u8 y.m0, .int .u8 y.m1, .int .u8 y.m2, .int .u8 y.m3, .int .u8 y.m4, .int .u8 y.m5, .int .i64 y.key, .int .i64 y.pp, .int .i64 y.port, .int .i64 y.st] 25 (0, 0)) from (hb1.block (w.heap.size + 1) (by simp)).trans (by simpa using HB0'.out))
  clear hb1 hz1
  go_wp2_with fail
  refine wp_region_class (by kernel_rfl) (by kernel_rfl) (fun C hC hS hN => ?_)
  have K := hide (show ∀ u, (∃ x : Of C, u = x.w) → u.heap[w.heap.size]? = some (.cells #[.int .i64 x.sp, .int .u8 x.m0, .int .u8 x.m1, .int .u8 x.m2, .int .u8 x.m3, .int .u8 x.m4, .int .u8 x.m5, .int .i64 x.key, .int .i64 x.pp, .int .i64 x.port, .int .i64 x.st] 25 (0, 0)) from fun u ⟨x, hx⟩ => by rw [hx]; exact ((hC _ x.ok).block w.heap.size (by omega)).trans HK1.out)
  have K' := hide (show ∀ u, (∃ x : Of C, u = x.w) → u.heap[w.heap.size + 1]? = some (.cells #[.int .i64 y.sp, .int .u8 y.m0, .int .u8 y.m1, .int .u8 y.m2, .int .u8 y.m3, .int .u8 y.m4, .int .u8 y.m5, .int .i64 y.key, .int .i64 y.pp, .int .i64 y.port, .int .i64 y.st] 25 (0, 0)) from fun u ⟨x, hx⟩ => by rw [hx]; exact ((hC _ x.ok).block (w.heap.size + 1) hw1).trans HK1'.out)
  have HS := hide hS; clear hS
  repeat (first
    | (go_big_quiet_want; refine quiet_load_part 25 (.tmp 2) rfl w.heap.size 0 rfl 25 _ #[.int .i64 x.sp, .int .u8 x.m0, .int .u8 x.m1, .int .u8 x.m2, .int .u8 x.m3, .int .u8 x.m4, .int .u8 x.m5, .int .i64 x.key, .int .i64 x.pp, .int .i64 x.port, .int .i64 x.st] (0, 0) _ K.out Try.underlying25 rfl (by kernel_rfl) rfl ?_; go_big_quiet_on; simp only [Act.put, List.setIfInBounds_toArray, List.set_cons_succ, List.set_cons_zero])
    | (go_big_quiet_want; refine quiet_load_part 25 (.tmp 3) rfl (w.heap.size + 1) 0 rfl 25 _ #[.int .i64 y.sp, .int .u8 y.m0, .int .u8 y.m1, .int .u8 y.m2, .int .u8 y.m3, .int .u8 y.m4, .int .u8 y.m5, .int .i64 y.key, .int .i64 y.pp, .int .i64 y.port, .int .i64 y.st] (0, 0) _ K'.out Try.underlying25 rfl (by kernel_rfl) rfl ?_; go_big_quiet_on; simp only [Act.put, List.setIfInBounds_toArray, List.set_cons_succ, List.set_cons_zero])
    | go_big_quiet_step ((first
      | (go_at_call 19; exact Calls.of_class HS.out (knows_any x y _))
      | (go_at_call 20; exact Calls.of_class HS.out (refKnows_any x y _))
      | (go_at_call 21; exact Calls.of_class HS.out (less_any x y _ HX.out HY.out))
      | (go_at_call 22; exact Calls.of_class HS.out (refLess_any x y _ HX.out HY.out)))))
  refine wpQuiet_nil ?_
  intro u hu
  have HU := hide (HB1.out.trans (hu.mono HB1.out.size))
  clear hu
  go_wp2_with fail
  go_ret
  exact ⟨by simp, HU.out⟩

/-! ### The row -/
set_option maxRecDepth 100000 in
theorem lacpduKnows_lifted (os : Os) (started : os.Started) (H : Type) (enc : TypeId × Value → H) :
    ReturnsInHanded {} Try.checked os 5 .any (Rows.lacpduKnowsSpec.pre6 enc Try.prog Try.f5 Rows.lacpduKnowsRow.domain false) (Rows.lacpduKnowsSpec.post enc Try.prog Try.f5 false true false false) := by
  refine returnsInHanded_of_change (C := Try.checked) own started (by kernel_rfl) Try.func5
    (ChangeSpec.witness6 (enc := enc) (C := Try.checked) false ⟨#[], #[.agg #[.int .i64 0, .int .u8 0, .int .u8 0, .int .u8 0, .int .u8 0, .int .u8 0, .int .u8 0, .int .i64 0, .int .i64 0, .int .i64 0, .int .i64 0], .agg #[.int .i64 0, .int .u8 0, .int .u8 0, .int .u8 0, .int .u8 0, .int .u8 0, .int .u8 0, .int .i64 0, .int .i64 0, .int .i64 0, .int .i64 0]], []⟩ 8 (by kernel_rfl) (by kernel_rfl) (by kernel_rfl) (by kernel_rfl)) ?_
  intro W base args ds gs before hval0 hW hcnd _
  have hval : ∀ (j : Nat) t v, Try.f5.params[j]? = some t → args[j]? = some v → Value.okWide Try.prog W .any base t v := hval0
  have hW' : DataW.Whole enc Try.prog Try.f5.params.toList Rows.lacpduKnowsSpec.vars false W args.toList ds gs before := hW
  have hlen : args.toList.length = Try.f5.params.toList.length ∧ ds.length = Try.f5.params.toList.length := by
    obtain ⟨p, q, hA, _⟩ := hW'
    exact trodAll_len _ _ _ _ hA
  rw [Try.params5] at hval hlen
  obtain ⟨p0, p1, rfl⟩ := args2 args hlen.1
  obtain ⟨d0, d1, rfl⟩ := list2 ds hlen.2
  obtain rfl : gs = [] := by
    obtain ⟨p, q, _, hV, _⟩ := hW'
    exact (trodVars_none hV).1
  obtain ⟨x, rfl, hx⟩ := open_inf (hval 0 25 p0 rfl rfl)
  obtain ⟨y, rfl, hy⟩ := open_inf (hval 1 25 p1 rfl rfl)
  refine (lacpduKnows_any x y W hx hy).mono fun e W' ⟨he, hb⟩ => ?_
  subst he
  have hp : ∀ t ∈ Try.f5.params.toList, Try.prog.readableRec t = true ∧ t < Try.prog.types.size := by
    rw [Try.params5]
    intro t ht
    simp at ht
    rcases ht with rfl
    all_goals first | exact readable25
  have hpost := law_post (enc := enc) (P := Try.prog) (f := Try.f5) (s := Rows.lacpduKnowsSpec) (tb := 4) (W' := W') laidOut hW' rfl (by kernel_rfl) Try.underlying4 hp ⟨rfl, rfl, rfl⟩ hb
  exact ⟨_, rfl, hpost⟩

theorem lacpduKnows_holds : Rows.LacpduKnowsSaid :=
  OpenClaim.holds_of_wide 5 Try.f5 rfl rfl rfl rfl rfl rfl rfl ⟨rfl, rfl, rfl, rfl, rfl⟩ rfl rfl rfl rfl rfl (by kernel_rfl) Try.func5 (by kernel_rfl)
    (of_decide_eq_true (by kernel_rfl)) (by unfold Func.isWrapper; first | (rw [if_pos (by decide +kernel)]; kernel_rfl) | (rw [if_neg (by decide +kernel)]; exact ⟨rfl, rfl⟩))
    (fun os started H enc _ => lacpduKnows_lifted os started H enc)
#print axioms lacpduKnows_holds
end Go.Proofs.Ytooieocfgifpgaa

/-
  Proved: LacpduEncodes: the bytes of any one, if it may be: the program's and the reference's are the same; the law answers true.
  No condition.
-/
import Derived.Test.YtooieocfgifpgaaLpI
namespace Go.Proofs.Ytooieocfgifpgaa
open Go.RowKit Go.ChangeShapes Go.WideShapes Go.ChangeAt
set_option linter.unusedVariables false

set_option maxRecDepth 100000 in
set_option maxHeartbeats 4000000 in
theorem lacpduEncodes_any (a p : Inf) (d : Int) (w : World) (ha : a.wf) (hp : p.wf) (hd : -9223372036854775808 ≤ d ∧ d ≤ 9223372036854775807) :
    Calls Try.prog 3 #[.agg #[.int .i64 a.sp, .int .u8 a.m0, .int .u8 a.m1, .int .u8 a.m2, .int .u8 a.m3, .int .u8 a.m4, .int .u8 a.m5, .int .i64 a.key, .int .i64 a.pp, .int .i64 a.port, .int .i64 a.st, .int .i64 p.sp, .int .u8 p.m0, .int .u8 p.m1, .int .u8 p.m2, .int .u8 p.m3, .int .u8 p.m4, .int .u8 p.m5, .int .i64 p.key, .int .i64 p.pp, .int .i64 p.port, .int .i64 p.st, .int .i64 d]] w fun e w' => e = .returned (.bool true) ∧ Below w.heap.size w w' := by
  have HB0 := hide (heap_alloc_new w (.cells #[.int .i64 a.sp, .int .u8 a.m0, .int .u8 a.m1, .int .u8 a.m2, .int .u8 a.m3, .int .u8 a.m4, .int .u8 a.m5, .int .i64 a.key, .int .i64 a.pp, .int .i64 a.port, .int .i64 a.st, .int .i64 p.sp, .int .u8 p.m0, .int .u8 p.m1, .int .u8 p.m2, .int .u8 p.m3, .int .u8 p.m4, .int .u8 p.m5, .int .i64 p.key, .int .i64 p.pp, .int .i64 p.port, .int .i64 p.st, .int .i64 d] 27))
  have HA := hide ha; have HP := hide hp
  clear ha hp hd
  go_enter Try.func3, Try.ntmps3
  go_wp2_with fail
  refine (awake_any _).mono ?_
  rintro e w1 ⟨rfl, hb1⟩
  have hz1 := hb1.size
  simp at hz1
  have hw1 : w.heap.size < w1.heap.size := by omega
  have HB1 := hide (((Below.refl w.heap.size w).alloc (Nat.le_refl _) (.cells #[.int .i64 a.sp, .int .u8 a.m0, .int .u8 a.m1, .int .u8 a.m2, .int .u8 a.m3, .int .u8 a.m4, .int .u8 a.m5, .int .i64 a.key, .int .i64 a.pp, .int .i64 a.port, .int .i64 a.st, .int .i64 p.sp, .int .u8 p.m0, .int .u8 p.m1, .int .u8 p.m2, .int .u8 p.m3, .int .u8 p.m4, .int .u8 p.m5, .int .i64 p.key, .int .i64 p.pp, .int .i64 p.port, .int .i64 p.st, .int .i64 d] 27)).trans (hb1.mono (by simp)))
  have HK1 := hide ((hb1.block w.heap.size (by simp)).trans HB0.out)
  clear hb1 hz1
  go_wp2_with (refine wpList_load_part rfl 27 (.tmp 1) rfl w.heap.size 0 rfl 27 _ #[.int .i64 a.sp, .int .u8 a.m0, .int .u8 a.m1, .int .u8 a.m2, .int .u8 a.m3, .int .u8 a.m4, .int .u8 a.m5, .int .i64 a.key, .int .i64 a.pp, .int .i64 a.port, .int .i64 a.st, .int .i64 p.sp, .int .u8 p.m0, .int .u8 p.m1, .int .u8 p.m2, .int .u8 p.m3, .int .u8 p.m4, .int .u8 p.m5, .int .i64 p.key, .int .i64 p.pp, .int .i64 p.port, .int .i64 p.st, .int .i64 d] (0, 0) _ HK1.out Try.underlying27 rfl (by kernel_rfl) rfl ?_)
  refine (encode_any a p d w1 HA.out HP.out).mono ?_
  rintro e w2 h2
  have H2 := hide h2
  have hb2 : Below w1.heap.size w1 w2 := by rcases h2 with ⟨-, _, _, -, -, h⟩ | ⟨-, -, h⟩ <;> exact h
  have hz2 := hb2.size
  have HB2 := hide (HB1.out.trans (hb2.mono HB1.out.size))
  have HK2 := hide ((hb2.block w.heap.size hw1).trans HK1.out)
  have hs2 : w.heap.size < w2.heap.size := by omega
  clear hb2
  rcases h2 with ⟨hok, g, c, rfl, hown, -⟩ | ⟨hok, rfl, -⟩
  · have HO := hide hown; have HOK := hide hok
    clear hown hok H2
    go_wp2_with (refine wpList_load_part rfl 27 (.tmp 1) rfl w.heap.size 0 rfl 27 _ #[.int .i64 a.sp, .int .u8 a.m0, .int .u8 a.m1, .int .u8 a.m2, .int .u8 a.m3, .int .u8 a.m4, .int .u8 a.m5, .int .i64 a.key, .int .i64 a.pp, .int .i64 a.port, .int .i64 a.st, .int .i64 p.sp, .int .u8 p.m0, .int .u8 p.m1, .int .u8 p.m2, .int .u8 p.m3, .int .u8 p.m4, .int .u8 p.m5, .int .i64 p.key, .int .i64 p.pp, .int .i64 p.port, .int .i64 p.st, .int .i64 d] (0, 0) _ HK2.out Try.underlying27 rfl (by kernel_rfl) rfl ?_)
    refine (refEncode_any a p d w2 HA.out HP.out).mono ?_
    rintro e w3 (⟨-, g', c', rfl, hown', hb3⟩ | ⟨hno, -, -⟩)
    rotate_left
    · rw [HOK.out] at hno; cases hno
    have HO3 := hide (HO.out.below hb3); have HO3' := hide hown'
    have HK3 := hide ((hb3.block w.heap.size hs2).trans HK2.out)
    have hs3 : w.heap.size < w3.heap.size := by have := hb3.size; omega
    have HB3 := hide (HB2.out.trans (hb3.mono HB2.out.size))
    clear hown' hb3
    go_wp2_with fail
    refine wp_region_class (by kernel_rfl) (by kernel_rfl) (fun C hC hS hN => ?_)
    have k1 : ∀ (u : Of C), (convert 29 9 (.slice (some ⟨g, 0, none⟩) 110 c)).run Try.prog u.w = .ok (.string ⟨(encL a p d).toArray⟩) u.w := fun u => (HO3.out.below (hC _ u.ok)).str (by decide)
    have k2 : ∀ (u : Of C), (convert 29 9 (.slice (some ⟨g', 0, none⟩) 110 c')).run Try.prog u.w = .ok (.string ⟨(encL a p d).toArray⟩) u.w := fun u => (HO3'.out.below (hC _ u.ok)).str (by decide)
    have K := hide (show ∀ u, (∃ x : Of C, u = x.w) → u.heap[w.heap.size]? = some (.cells #[.int .i64 a.sp, .int .u8 a.m0, .int .u8 a.m1, .int .u8 a.m2, .int .u8 a.m3, .int .u8 a.m4, .int .u8 a.m5, .int .i64 a.key, .int .i64 a.pp, .int .i64 a.port, .int .i64 a.st, .int .i64 p.sp, .int .u8 p.m0, .int .u8 p.m1, .int .u8 p.m2, .int .u8 p.m3, .int .u8 p.m4, .int .u8 p.m5, .int .i64 p.key, .int .i64 p.pp, .int .i64 p.port, .int .i64 p.st, .int .i64 d] 27 (0, 0)) from fun u ⟨x, hx⟩ => by rw [hx]; exact ((hC _ x.ok).block w.heap.size hs3).trans HK3.out)
    have HS := hide hS; clear hS
    repeat (first
      | (go_big_quiet_want; refine quiet_load_part 27 (.tmp 1) rfl w.heap.size 0 rfl 27 _ #[.int .i64 a.sp, .int .u8 a.m0, .int .u8 a.m1, .int .u8 a.m2, .int .u8 a.m3, .int .u8 a.m4, .int .u8 a.m5, .int .i64 a.key, .int .i64 a.pp, .int .i64 a.port, .int .i64 a.st, .int .i64 p.sp, .int .u8 p.m0, .int .u8 p.m1, .int .u8 p.m2, .int .u8 p.m3, .int .u8 p.m4, .int .u8 p.m5, .int .i64 p.key, .int .i64 p.pp, .int .i64 p.port, .int .i64 p.st, .int .i64 d] (0, 0) _ K.out Try.underlying27 rfl (by kernel_rfl) rfl ?_; go_big_quiet_on; simp only [Act.put, List.setIfInBounds_toArray, List.set_cons_succ, List.set_cons_zero])
      | go_big_quiet_step ((first
        | (go_at_call 17; exact Calls.of_class HS.out (right_any a p d _))
        | (go_at_call 18; exact Calls.of_class HS.out (refRight_any a p d _)))))
    refine wpQuiet_nil ?_
    intro u hu
    have HU := hide (HB3.out.trans (hu.mono HB3.out.size))
    clear hu k1 k2
    go_wp2_with fail
    go_ret
    exact ⟨by simp, HU.out⟩
  · have HOK := hide hok
    clear hok H2
    go_wp2_with (refine wpList_load_part rfl 27 (.tmp 1) rfl w.heap.size 0 rfl 27 _ #[.int .i64 a.sp, .int .u8 a.m0, .int .u8 a.m1, .int .u8 a.m2, .int .u8 a.m3, .int .u8 a.m4, .int .u8 a.m5, .int .i64 a.key, .int .i64 a.pp, .int .i64 a.port, .int .i64 a.st, .int .i64 p.sp, .int .u8 p.m0, .int .u8 p.m1, .int .u8 p.m2, .int .u8 p.m3, .int .u8 p.m4, .int .u8 p.m5, .int .i64 p.key, .int .i64 p.pp, .int .i64 p.port, .int .i64 p.st, .int .i64 d] (0, 0) _ HK2.out Try.underlying27 rfl (by kernel_rfl) rfl ?_)
    refine (refEncode_any a p d w2 HA.out HP.out).mono ?_
    rintro e w3 (⟨hno, -, -⟩ | ⟨-, rfl, hb3⟩)
    · rw [HOK.out] at hno; cases hno
    have HK3 := hide ((hb3.block w.heap.size hs2).trans HK2.out)
    have hs3 : w.heap.size < w3.heap.size := by have := hb3.size; omega
    have HB3 := hide (HB2.out.trans (hb3.mono HB2.out.size))
    clear hb3
    go_wp2_with fail
    refine wp_region_class (by kernel_rfl) (by kernel_rfl) (fun C hC hS hN => ?_)
    have k1 : ∀ (u : Of C), (convert 29 9 (.slice none 0 0)).run Try.prog u.w = .ok (.string ⟨#[]⟩) u.w := fun u => str_nil u.w
    have K := hide (show ∀ u, (∃ x : Of C, u = x.w) → u.heap[w.heap.size]? = some (.cells #[.int .i64 a.sp, .int .u8 a.m0, .int .u8 a.m1, .int .u8 a.m2, .int .u8 a.m3, .int .u8 a.m4, .int .u8 a.m5, .int .i64 a.key, .int .i64 a.pp, .int .i64 a.port, .int .i64 a.st, .int .i64 p.sp, .int .u8 p.m0, .int .u8 p.m1, .int .u8 p.m2, .int .u8 p.m3, .int .u8 p.m4, .int .u8 p.m5, .int .i64 p.key, .int .i64 p.pp, .int .i64 p.port, .int .i64 p.st, .int .i64 d] 27 (0, 0)) from fun u ⟨x, hx⟩ => by rw [hx]; exact ((hC _ x.ok).block w.heap.size hs3).trans HK3.out)
    have HS := hide hS; clear hS
    repeat (first
      | (go_big_quiet_want; refine quiet_load_part 27 (.tmp 1) rfl w.heap.size 0 rfl 27 _ #[.int .i64 a.sp, .int .u8 a.m0, .int .u8 a.m1, .int .u8 a.m2, .int .u8 a.m3, .int .u8 a.m4, .int .u8 a.m5, .int .i64 a.key, .int .i64 a.pp, .int .i64 a.port, .int .i64 a.st, .int .i64 p.sp, .int .u8 p.m0, .int .u8 p.m1, .int .u8 p.m2, .int .u8 p.m3, .int .u8 p.m4, .int .u8 p.m5, .int .i64 p.key, .int .i64 p.pp, .int .i64 p.port, .int .i64 p.st, .int .i64 d] (0, 0) _ K.out Try.underlying27 rfl (by kernel_rfl) rfl ?_; go_big_quiet_on; simp only [Act.put, List.setIfInBounds_toArray, List.set_cons_succ, List.set_cons_zero])
      | go_big_quiet_step ((first
        | (go_at_call 17; exact Calls.of_class HS.out (right_any a p d _))
        | (go_at_call 18; exact Calls.of_class HS.out (refRight_any a p d _)))))
    refine wpQuiet_nil ?_
    intro u hu
    have HU := hide (HB3.out.trans (hu.mono HB3.out.size))
    clear hu k1
    go_wp2_with fail
    go_ret
    exact ⟨by simp, HU.out⟩

/-! ### The row -/
set_option maxRecDepth 100000 in
theorem lacpduEncodes_lifted (os : Os) (started : os.Started) (H : Type) (enc : TypeId × Value → H) :
    ReturnsInHanded {} Try.checked os 3 .any (Rows.lacpduEncodesSpec.pre6 enc Try.prog Try.f3 Rows.lacpduEncodesRow.domain false) (Rows.lacpduEncodesSpec.post enc Try.prog Try.f3 false true false false) := by
  refine returnsInHanded_of_change (C := Try.checked) own started (by kernel_rfl) Try.func3
    (ChangeSpec.witness6 (enc := enc) (C := Try.checked) false ⟨#[], #[.agg #[.int .i64 0, .int .u8 0, .int .u8 0, .int .u8 0, .int .u8 0, .int .u8 0, .int .u8 0, .int .i64 0, .int .i64 0, .int .i64 0, .int .i64 0, .int .i64 0, .int .u8 0, .int .u8 0, .int .u8 0, .int .u8 0, .int .u8 0, .int .u8 0, .int .i64 0, .int .i64 0, .int .i64 0, .int .i64 0, .int .i64 0]], []⟩ 8 (by kernel_rfl) (by kernel_rfl) (by kernel_rfl) (by kernel_rfl)) ?_
  intro W base args ds gs before hval0 hW hcnd _
  have hval : ∀ (j : Nat) t v, Try.f3.params[j]? = some t → args[j]? = some v → Value.okWide Try.prog W .any base t v := hval0
  have hW' : DataW.Whole enc Try.prog Try.f3.params.toList Rows.lacpduEncodesSpec.vars false W args.toList ds gs before := hW
  have hlen : args.toList.length = Try.f3.params.toList.length ∧ ds.length = Try.f3.params.toList.length := by
    obtain ⟨p, q, hA, _⟩ := hW'
    exact trodAll_len _ _ _ _ hA
  rw [Try.params3] at hval hlen
  obtain ⟨p0, rfl⟩ := args1 args hlen.1
  obtain ⟨d0, rfl⟩ := list1 ds hlen.2
  obtain rfl : gs = [] := by
    obtain ⟨p, q, _, hV, _⟩ := hW'
    exact (trodVars_none hV).1
  obtain ⟨xa, xp, xd, rfl, hxa, hxp, hxd⟩ := open_lacp (hval 0 27 p0 rfl rfl)
  refine (lacpduEncodes_any xa xp xd W hxa hxp hxd).mono fun e W' ⟨he, hb⟩ => ?_
  subst he
  have hp : ∀ t ∈ Try.f3.params.toList, Try.prog.readableRec t = true ∧ t < Try.prog.types.size := by
    rw [Try.params3]
    intro t ht
    simp at ht
    rcases ht with rfl
    all_goals first | exact readable27
  have hpost := law_post (enc := enc) (P := Try.prog) (f := Try.f3) (s := Rows.lacpduEncodesSpec) (tb := 4) (W' := W') laidOut hW' rfl (by kernel_rfl) Try.underlying4 hp ⟨rfl, rfl, rfl⟩ hb
  exact ⟨_, rfl, hpost⟩

theorem lacpduEncodes_holds : Rows.LacpduEncodesSaid :=
  OpenClaim.holds_of_wide 3 Try.f3 rfl rfl rfl rfl rfl rfl rfl ⟨rfl, rfl, rfl, rfl, rfl⟩ rfl rfl rfl rfl rfl (by kernel_rfl) Try.func3 (by kernel_rfl)
    (of_decide_eq_true (by kernel_rfl)) (by unfold Func.isWrapper; first | (rw [if_pos (by decide +kernel)]; kernel_rfl) | (rw [if_neg (by decide +kernel)]; exact ⟨rfl, rfl⟩))
    (fun os started H enc _ => lacpduEncodes_lifted os started H enc)
#print axioms lacpduEncodes_holds
end Go.Proofs.Ytooieocfgifpgaa

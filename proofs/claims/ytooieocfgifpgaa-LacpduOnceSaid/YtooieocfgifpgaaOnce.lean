/-
  Proved: LacpduOnce: no two unlike ones have the same bytes; all have 110; the law answers true.
  No condition.
-/
import Derived.Test.YtooieocfgifpgaaLpJ
namespace Go.Proofs.Ytooieocfgifpgaa
open Go.RowKit Go.ChangeShapes Go.WideShapes Go.ChangeAt
set_option linter.unusedVariables false

theorem once_eq (a p : Inf) (d : Int) (b q : Inf) (f : Int) (ha : a.wf) (hp : p.wf) (hb : b.wf) (hq : q.wf) (h1 : okL a p d = true) (h2 : okL b q f = true) :
    (encL a p d == encL b q f) = eqL a p d b q f := by
  obtain ⟨fa, fp, fd⟩ := okL_fine h1
  obtain ⟨fb, fq, ff⟩ := okL_fine h2
  rw [Bool.eq_iff_iff, eqL_iff]
  simp only [beq_iff_eq]
  constructor
  · intro h
    exact encL_inj ha hp hb hq fa fp fb fq fd ff h
  · rintro ⟨rfl, rfl, rfl⟩
    rfl

set_option maxRecDepth 100000 in
set_option maxHeartbeats 4000000 in
theorem lacpduOnce_any (a p : Inf) (d : Int) (b q : Inf) (f : Int) (w : World) (ha : a.wf) (hp : p.wf) (hd : -9223372036854775808 ≤ d ∧ d ≤ 9223372036854775807) (hb : b.wf) (hq : q.wf) (hf : -9223372036854775808 ≤ f ∧ f ≤ 9223372036854775807) :
    Calls Try.prog 4 #[.agg #[.int .i64 a.sp, .int .u8 a.m0, .int .u8 a.m1, .int .u8 a.m2, .int .u8 a.m3, .int .u8 a.m4, .int .u8 a.m5, .int .i64 a.key, .int .i64 a.pp, .int .i64 a.port, .int .i64 a.st, .int .i64 p.sp, .int .u8 p.m0, .int .u8 p.m1, .int .u8 p.m2, .int .u8 p.m3, .int .u8 p.m4, .int .u8 p.m5, .int .i64 p.key, .int .i64 p.pp, .int .i64 p.port, .int .i64 p.st, .int .i64 d], .agg #[.int .i64 b.sp, .int .u8 b.m0, .int .u8 b.m1, .int .u8 b.m2, .int .u8 b.m3, .int .u8 b.m4, .int .u8 b.m5, .int .i64 b.key, .int .i64 b.pp, .int .i64 b.port, .int .i64 b.st, .int .i64 q.sp, .int .u8 q.m0, .int .u8 q.m1, .int .u8 q.m2, .int .u8 q.m3, .int .u8 q.m4, .int .u8 q.m5, .int .i64 q.key, .int .i64 q.pp, .int .i64 q.port, .int .i64 q.st, .int .i64 f]] w fun e w' => e = .returned (.bool true) ∧ Below w.heap.size w w' := by
  have HB0 := hide (heap_alloc_new w (.cells #[.int .i64 a.sp, .int .u8 a.m0, .int .u8 a.m1, .int .u8 a.m2, .int .u8 a.m3, .int .u8 a.m4, .int .u8 a.m5, .int .i64 a.key, .int .i64 a.pp, .int .i64 a.port, .int .i64 a.st, .int .i64 p.sp, .int .u8 p.m0, .int .u8 p.m1, .int .u8 p.m2, .int .u8 p.m3, .int .u8 p.m4, .int .u8 p.m5, .int .i64 p.key, .int .i64 p.pp, .int .i64 p.port, .int .i64 p.st, .int .i64 d] 27))
  have HB0' := hide (heap_alloc_new (w.alloc (.cells #[.int .i64 a.sp, .int .u8 a.m0, .int .u8 a.m1, .int .u8 a.m2, .int .u8 a.m3, .int .u8 a.m4, .int .u8 a.m5, .int .i64 a.key, .int .i64 a.pp, .int .i64 a.port, .int .i64 a.st, .int .i64 p.sp, .int .u8 p.m0, .int .u8 p.m1, .int .u8 p.m2, .int .u8 p.m3, .int .u8 p.m4, .int .u8 p.m5, .int .i64 p.key, .int .i64 p.pp, .int .i64 p.port, .int .i64 p.st, .int .i64 d] 27)) (.cells #[.int .i64 b.sp, .int .u8 b.m0, .int .u8 b.m1, .int .u8 b.m2, .int .u8 b.m3, .int .u8 b.m4, .int .u8 b.m5, .int .i64 b.key, .int .i64 b.pp, .int .i64 b.port, .int .i64 b.st, .int .i64 q.sp, .int .u8 q.m0, .int .u8 q.m1, .int .u8 q.m2, .int .u8 q.m3, .int .u8 q.m4, .int .u8 q.m5, .int .i64 q.key, .int .i64 q.pp, .int .i64 q.port, .int .i64 q.st, .int .i64 f] 27))
  have HA := hide ha; have HP := hide hp; have HB := hide hb; have HQ := hide hq
  clear ha hp hd hb hq hf
  go_enter Try.func4, Try.ntmps4
  go_wp2_with fail
  refine (awake_any _).mono ?_
  rintro e w1 ⟨rfl, hb1⟩
  have hz1 := hb1.size
  simp at hz1
  have hw1 : w.heap.size + 1 < w1.heap.size := by omega
  have HB1 := hide ((((Below.refl w.heap.size w).alloc (Nat.le_refl _) (.cells #[.int .i64 a.sp, .int .u8 a.m0, .int .u8 a.m1, .int .u8 a.m2, .int .u8 a.m3, .int .u8 a.m4, .int .u8 a.m5, .int .i64 a.key, .int .i64 a.pp, .int .i64 a.port, .int .i64 a.st, .int .i64 p.sp, .int .u8 p.m0, .int .u8 p.m1, .int .u8 p.m2, .int .u8 p.m3, .int .u8 p.m4, .int .u8 p.m5, .int .i64 p.key, .int .i64 p.pp, .int .i64 p.port, .int .i64 p.st, .int .i64 d] 27)).alloc (by simp) (.cells #[.int .i64 b.sp, .int .u8 b.m0, .int .u8 b.m1, .int .u8 b.m2, .int .u8 b.m3, .int .u8 b.m4, .int .u8 b.m5, .int .i64 b.key, .int .i64 b.pp, .int .i64 b.port, .int .i64 b.st, .int .i64 q.sp, .int .u8 q.m0, .int .u8 q.m1, .int .u8 q.m2, .int .u8 q.m3, .int .u8 q.m4, .int .u8 q.m5, .int .i64 q.key, .int .i64 q.pp, .int .i64 q.port, .int .i64 q.st, .int .i64 f] 27)).trans (hb1.mono (by simp; omega)))
  have HK1 := hide ((hb1.block w.heap.size (by simp; omega)).trans ((Below.heap_alloc _ _ _ (by simp)).trans HB0.out))
  have HK1' := hide (show w1.heap[w.heap.size + 1]? = some (.cells #[.int .i64 b.sp, .int .u8 b.m0, .int .u8 b.m1, .int .u8 b.m2, .int .u8 b.m3, .int .u8 b.m4, .int .u8 b.m5, .int .i64 b.key, .int .i64 b.pp, .int .i64 b.port, .int .i64 b.st, .int .i64 q.sp, .int .u8 q.m0, .int .u8 q.m1, .int .u8 q.m2, .int .u8 q.m3, .int .u8 q.m4, .int .u8 q.m5, .int .i64 q.key, .int .i64 q.pp, .int .i64 q.port, .int .i64 q.st, .int .i64 f] 27 (0, 0)) from (hb1.block (w.heap.size + 1) (by simp)).trans (by simpa using HB0'.out))
  clear hb1 hz1
  go_wp2_with (refine wpList_load_part rfl 27 (.tmp 2) rfl w.heap.size 0 rfl 27 _ #[.int .i64 a.sp, .int .u8 a.m0, .int .u8 a.m1, .int .u8 a.m2, .int .u8 a.m3, .int .u8 a.m4, .int .u8 a.m5, .int .i64 a.key, .int .i64 a.pp, .int .i64 a.port, .int .i64 a.st, .int .i64 p.sp, .int .u8 p.m0, .int .u8 p.m1, .int .u8 p.m2, .int .u8 p.m3, .int .u8 p.m4, .int .u8 p.m5, .int .i64 p.key, .int .i64 p.pp, .int .i64 p.port, .int .i64 p.st, .int .i64 d] (0, 0) _ HK1.out Try.underlying27 rfl (by kernel_rfl) rfl ?_)
  refine (encode_any a p d w1 HA.out HP.out).mono ?_
  rintro e w2 h2
  have hb2 : Below w1.heap.size w1 w2 := by rcases h2 with ⟨-, _, _, -, -, h⟩ | ⟨-, -, h⟩ <;> exact h
  have hz2 := hb2.size
  have HB2 := hide (HB1.out.trans (hb2.mono HB1.out.size))
  have HK2 := hide ((hb2.block w.heap.size (by omega)).trans HK1.out)
  have HK2' := hide ((hb2.block (w.heap.size + 1) hw1).trans HK1'.out)
  have hs2 : w.heap.size + 1 < w2.heap.size := by omega
  clear hb2
  rcases h2 with ⟨hok, g, c, rfl, hown, -⟩ | ⟨hok, rfl, -⟩
  rotate_left
  · go_wp2_with (refine wpList_load_part rfl 27 (.tmp 3) rfl (w.heap.size + 1) 0 rfl 27 _ #[.int .i64 b.sp, .int .u8 b.m0, .int .u8 b.m1, .int .u8 b.m2, .int .u8 b.m3, .int .u8 b.m4, .int .u8 b.m5, .int .i64 b.key, .int .i64 b.pp, .int .i64 b.port, .int .i64 b.st, .int .i64 q.sp, .int .u8 q.m0, .int .u8 q.m1, .int .u8 q.m2, .int .u8 q.m3, .int .u8 q.m4, .int .u8 q.m5, .int .i64 q.key, .int .i64 q.pp, .int .i64 q.port, .int .i64 q.st, .int .i64 f] (0, 0) _ HK2'.out Try.underlying27 rfl (by kernel_rfl) rfl ?_)
    refine (encode_any b q f w2 HB.out HQ.out).mono ?_
    rintro e w3 h3
    have hb3 : Below w2.heap.size w2 w3 := by rcases h3 with ⟨-, _, _, -, -, h⟩ | ⟨-, -, h⟩ <;> exact h
    have HB3 := hide (HB2.out.trans (hb3.mono HB2.out.size))
    clear hb3
    rcases h3 with ⟨hok3, g', c', rfl, hown', -⟩ | ⟨hok3, rfl, -⟩
    all_goals
      go_wp2_with fail
      go_ret
      exact ⟨rfl, HB3.out⟩
  have HO := hide hown; have HOK := hide hok
  clear hown hok
  go_wp2_with (refine wpList_load_part rfl 27 (.tmp 3) rfl (w.heap.size + 1) 0 rfl 27 _ #[.int .i64 b.sp, .int .u8 b.m0, .int .u8 b.m1, .int .u8 b.m2, .int .u8 b.m3, .int .u8 b.m4, .int .u8 b.m5, .int .i64 b.key, .int .i64 b.pp, .int .i64 b.port, .int .i64 b.st, .int .i64 q.sp, .int .u8 q.m0, .int .u8 q.m1, .int .u8 q.m2, .int .u8 q.m3, .int .u8 q.m4, .int .u8 q.m5, .int .i64 q.key, .int .i64 q.pp, .int .i64 q.port, .int .i64 q.st, .int .i64 f] (0, 0) _ HK2'.out Try.underlying27 rfl (by kernel_rfl) rfl ?_)
  refine (encode_any b q f w2 HB.out HQ.out).mono ?_
  rintro e w3 h3
  have hb3 : Below w2.heap.size w2 w3 := by rcases h3 with ⟨-, _, _, -, -, h⟩ | ⟨-, -, h⟩ <;> exact h
  have HB3 := hide (HB2.out.trans (hb3.mono HB2.out.size))
  have HO3 := hide (HO.out.below hb3)
  have HK3 := hide ((hb3.block w.heap.size (by omega)).trans HK2.out)
  have HK3' := hide ((hb3.block (w.heap.size + 1) hs2).trans HK2'.out)
  have hs3 : w.heap.size + 1 < w3.heap.size := by have := hb3.size; omega
  clear hb3
  rcases h3 with ⟨hok3, g', c', rfl, hown', -⟩ | ⟨hok3, rfl, -⟩
  rotate_left
  · go_wp2_with fail
    go_ret
    exact ⟨rfl, HB3.out⟩
  have HO3' := hide hown'
  have HEQ := hide (once_eq a p d b q f HA.out HP.out HB.out HQ.out HOK.out hok3)
  obtain ⟨E, hE⟩ : ∃ E, E = eqL a p d b q f := ⟨_, rfl⟩
  have HE := hide hE
  clear hown' hok3 hE
  go_wp2_with fail
  refine wp_region_class (by kernel_rfl) (by kernel_rfl) (fun C hC hS hN => ?_)
  have k1 : ∀ (u : Of C), (convert 29 9 (.slice (some ⟨g, 0, none⟩) 110 c)).run Try.prog u.w = .ok (.string ⟨(encL a p d).toArray⟩) u.w := fun u => (HO3.out.below (hC _ u.ok)).str (by decide)
  have k2 : ∀ (u : Of C), (convert 29 9 (.slice (some ⟨g', 0, none⟩) 110 c')).run Try.prog u.w = .ok (.string ⟨(encL b q f).toArray⟩) u.w := fun u => (HO3'.out.below (hC _ u.ok)).str (by decide)
  have K := hide (show ∀ u, (∃ x : Of C, u = x.w) → u.heap[w.heap.size]? = some (.cells #[.int .i64 a.sp, .int .u8 a.m0, .int .u8 a.m1, .int .u8 a.m2, .int .u8 a.m3, .int .u8 a.m4, .int .u8 a.m5, .int .i64 a.key, .int .i64 a.pp, .int .i64 a.port, .int .i64 a.st, .int .i64 p.sp, .int .u8 p.m0, .int .u8 p.m1, .int .u8 p.m2, .int .u8 p.m3, .int .u8 p.m4, .int .u8 p.m5, .int .i64 p.key, .int .i64 p.pp, .int .i64 p.port, .int .i64 p.st, .int .i64 d] 27 (0, 0)) from fun u ⟨x, hx⟩ => by rw [hx]; exact ((hC _ x.ok).block w.heap.size (by omega)).trans HK3.out)
  have K' := hide (show ∀ u, (∃ x : Of C, u = x.w) → u.heap[w.heap.size + 1]? = some (.cells #[.int .i64 b.sp, .int .u8 b.m0, .int .u8 b.m1, .int .u8 b.m2, .int .u8 b.m3, .int .u8 b.m4, .int .u8 b.m5, .int .i64 b.key, .int .i64 b.pp, .int .i64 b.port, .int .i64 b.st, .int .i64 q.sp, .int .u8 q.m0, .int .u8 q.m1, .int .u8 q.m2, .int .u8 q.m3, .int .u8 q.m4, .int .u8 q.m5, .int .i64 q.key, .int .i64 q.pp, .int .i64 q.port, .int .i64 q.st, .int .i64 f] 27 (0, 0)) from fun u ⟨x, hx⟩ => by rw [hx]; exact ((hC _ x.ok).block (w.heap.size + 1) hs3).trans HK3'.out)
  have HS := hide hS; clear hS
  repeat (first
    | (go_big_quiet_want; refine quiet_load_part 27 (.tmp 2) rfl w.heap.size 0 rfl 27 _ #[.int .i64 a.sp, .int .u8 a.m0, .int .u8 a.m1, .int .u8 a.m2, .int .u8 a.m3, .int .u8 a.m4, .int .u8 a.m5, .int .i64 a.key, .int .i64 a.pp, .int .i64 a.port, .int .i64 a.st, .int .i64 p.sp, .int .u8 p.m0, .int .u8 p.m1, .int .u8 p.m2, .int .u8 p.m3, .int .u8 p.m4, .int .u8 p.m5, .int .i64 p.key, .int .i64 p.pp, .int .i64 p.port, .int .i64 p.st, .int .i64 d] (0, 0) _ K.out Try.underlying27 rfl (by kernel_rfl) rfl ?_; go_big_quiet_on; simp only [Act.put, List.setIfInBounds_toArray, List.set_cons_succ, List.set_cons_zero])
    | (go_big_quiet_want; refine quiet_load_part 27 (.tmp 3) rfl (w.heap.size + 1) 0 rfl 27 _ #[.int .i64 b.sp, .int .u8 b.m0, .int .u8 b.m1, .int .u8 b.m2, .int .u8 b.m3, .int .u8 b.m4, .int .u8 b.m5, .int .i64 b.key, .int .i64 b.pp, .int .i64 b.port, .int .i64 b.st, .int .i64 q.sp, .int .u8 q.m0, .int .u8 q.m1, .int .u8 q.m2, .int .u8 q.m3, .int .u8 q.m4, .int .u8 q.m5, .int .i64 q.key, .int .i64 q.pp, .int .i64 q.port, .int .i64 q.st, .int .i64 f] (0, 0) _ K'.out Try.underlying27 rfl (by kernel_rfl) rfl ?_; go_big_quiet_on; simp only [Act.put, List.setIfInBounds_toArray, List.set_cons_succ, List.set_cons_zero])
    | (go_big_quiet_want; refine quiet_run (.bool (eqL a p d b q f)) (fun w => run_eq_op (t := 27) rfl rfl rfl guard27 (run_eqL w 9996 a p d b q f)) ?_; go_big_quiet_on; simp only [Act.put, List.setIfInBounds_toArray, List.set_cons_succ, List.set_cons_zero])
    | go_big_quiet_step (fail))
  refine wpQuiet_nil ?_
  intro u hu
  have HU := hide (HB3.out.trans (hu.mono HB3.out.size))
  clear hu k1 k2
  go_wp2_with fail
  go_ret
  exact ⟨by simp [HEQ.out], HU.out⟩

/-! ### The row -/
set_option maxRecDepth 100000 in
theorem lacpduOnce_lifted (os : Os) (started : os.Started) (H : Type) (enc : TypeId × Value → H) :
    ReturnsInHanded {} Try.checked os 4 .any (Rows.lacpduOnceSpec.pre6 enc Try.prog Try.f4 Rows.lacpduOnceRow.domain false) (Rows.lacpduOnceSpec.post enc Try.prog Try.f4 false true false false) := by
  refine returnsInHanded_of_change (C := Try.checked) own started (by kernel_rfl) Try.func4
    (ChangeSpec.witness6 (enc := enc) (C := Try.checked) false ⟨#[], #[.agg #[.int .i64 0, .int .u8 0, .int .u8 0, .int .u8 0, .int .u8 0, .int .u8 0, .int .u8 0, .int .i64 0, .int .i64 0, .int .i64 0, .int .i64 0, .int .i64 0, .int .u8 0, .int .u8 0, .int .u8 0, .int .u8 0, .int .u8 0, .int .u8 0, .int .i64 0, .int .i64 0, .int .i64 0, .int .i64 0, .int .i64 0], .agg #[.int .i64 0, .int .u8 0, .int .u8 0, .int .u8 0, .int .u8 0, .int .u8 0, .int .u8 0, .int .i64 0, .int .i64 0, .int .i64 0, .int .i64 0, .int .i64 0, .int .u8 0, .int .u8 0, .int .u8 0, .int .u8 0, .int .u8 0, .int .u8 0, .int .i64 0, .int .i64 0, .int .i64 0, .int .i64 0, .int .i64 0]], []⟩ 8 (by kernel_rfl) (by kernel_rfl) (by kernel_rfl) (by kernel_rfl)) ?_
  intro W base args ds gs before hval0 hW hcnd _
  have hval : ∀ (j : Nat) t v, Try.f4.params[j]? = some t → args[j]? = some v → Value.okWide Try.prog W .any base t v := hval0
  have hW' : DataW.Whole enc Try.prog Try.f4.params.toList Rows.lacpduOnceSpec.vars false W args.toList ds gs before := hW
  have hlen : args.toList.length = Try.f4.params.toList.length ∧ ds.length = Try.f4.params.toList.length := by
    obtain ⟨p, q, hA, _⟩ := hW'
    exact trodAll_len _ _ _ _ hA
  rw [Try.params4] at hval hlen
  obtain ⟨p0, p1, rfl⟩ := args2 args hlen.1
  obtain ⟨d0, d1, rfl⟩ := list2 ds hlen.2
  obtain rfl : gs = [] := by
    obtain ⟨p, q, _, hV, _⟩ := hW'
    exact (trodVars_none hV).1
  obtain ⟨xa, xp, xd, rfl, hxa, hxp, hxd⟩ := open_lacp (hval 0 27 p0 rfl rfl)
  obtain ⟨ya, yp, yd, rfl, hya, hyp, hyd⟩ := open_lacp (hval 1 27 p1 rfl rfl)
  refine (lacpduOnce_any xa xp xd ya yp yd W hxa hxp hxd hya hyp hyd).mono fun e W' ⟨he, hb⟩ => ?_
  subst he
  have hp : ∀ t ∈ Try.f4.params.toList, Try.prog.readableRec t = true ∧ t < Try.prog.types.size := by
    rw [Try.params4]
    intro t ht
    simp at ht
    rcases ht with rfl
    all_goals first | exact readable27
  have hpost := law_post (enc := enc) (P := Try.prog) (f := Try.f4) (s := Rows.lacpduOnceSpec) (tb := 4) (W' := W') laidOut hW' rfl (by kernel_rfl) Try.underlying4 hp ⟨rfl, rfl, rfl⟩ hb
  exact ⟨_, rfl, hpost⟩

theorem lacpduOnce_holds : Rows.LacpduOnceSaid :=
  OpenClaim.holds_of_wide 4 Try.f4 rfl rfl rfl rfl rfl rfl rfl ⟨rfl, rfl, rfl, rfl, rfl⟩ rfl rfl rfl rfl rfl (by kernel_rfl) Try.func4 (by kernel_rfl)
    (of_decide_eq_true (by kernel_rfl)) (by unfold Func.isWrapper; first | (rw [if_pos (by decide +kernel)]; kernel_rfl) | (rw [if_neg (by decide +kernel)]; exact ⟨rfl, rfl⟩))
    (fun os started H enc _ => lacpduOnce_lifted os started H enc)
#print axioms lacpduOnce_holds
end Go.Proofs.Ytooieocfgifpgaa

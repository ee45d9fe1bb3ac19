/-
  Proved: RxDown: an end that is down hears nothing, is sound for nobody, and stays so while time passes; enabled it is Expired; the law answers true.
  No condition.
-/
import Derived.Test.YtooieocfgifpgaaRxH
namespace Go.Proofs.Ytooieocfgifpgaa
open Go.RowKit Go.ChangeShapes Go.WideShapes Go.ChangeAt
set_option linter.unusedVariables false

set_option maxRecDepth 100000 in
set_option maxHeartbeats 8000000 in
theorem rxDown_any (A : Option Addr) (n cap : Nat) (L : Nat → SV) (la lp : Inf) (d now : Int) (w : World) (hl : Steps w w.heap.size A n L) (hla : la.wf) (hlp : lp.wf) (hd : -9223372036854775808 ≤ d ∧ d ≤ 9223372036854775807) (hnow : -9223372036854775808 ≤ now ∧ now ≤ 9223372036854775807) :
    Calls Try.prog 13 #[.slice A n cap, .agg #[.int .i64 la.sp, .int .u8 la.m0, .int .u8 la.m1, .int .u8 la.m2, .int .u8 la.m3, .int .u8 la.m4, .int .u8 la.m5, .int .i64 la.key, .int .i64 la.pp, .int .i64 la.port, .int .i64 la.st, .int .i64 lp.sp, .int .u8 lp.m0, .int .u8 lp.m1, .int .u8 lp.m2, .int .u8 lp.m3, .int .u8 lp.m4, .int .u8 lp.m5, .int .i64 lp.key, .int .i64 lp.pp, .int .i64 lp.port, .int .i64 lp.st, .int .i64 d], .int .i64 now] w fun e w' => e = .returned (.bool true) ∧ Below w.heap.size w w' := by
  have HL := hide hl
  have HB0 := hide (heap_alloc_new w (.cells #[.int .i64 la.sp, .int .u8 la.m0, .int .u8 la.m1, .int .u8 la.m2, .int .u8 la.m3, .int .u8 la.m4, .int .u8 la.m5, .int .i64 la.key, .int .i64 la.pp, .int .i64 la.port, .int .i64 la.st, .int .i64 lp.sp, .int .u8 lp.m0, .int .u8 lp.m1, .int .u8 lp.m2, .int .u8 lp.m3, .int .u8 lp.m4, .int .u8 lp.m5, .int .i64 lp.key, .int .i64 lp.pp, .int .i64 lp.port, .int .i64 lp.st, .int .i64 d] 27))
  have hbA := (Below.refl w.heap.size w).alloc (Nat.le_refl _) (.cells #[.int .i64 la.sp, .int .u8 la.m0, .int .u8 la.m1, .int .u8 la.m2, .int .u8 la.m3, .int .u8 la.m4, .int .u8 la.m5, .int .i64 la.key, .int .i64 la.pp, .int .i64 la.port, .int .i64 la.st, .int .i64 lp.sp, .int .u8 lp.m0, .int .u8 lp.m1, .int .u8 lp.m2, .int .u8 lp.m3, .int .u8 lp.m4, .int .u8 lp.m5, .int .i64 lp.key, .int .i64 lp.pp, .int .i64 lp.port, .int .i64 lp.st, .int .i64 d] 27)
  have HBA := hide hbA
  clear hl hla hlp hd hbA
  go_enter Try.func13, Try.ntmps13
  go_wp2_with fail
  refine (rxAwake_any _).mono ?_
  rintro e w1 ⟨rfl, hb1⟩
  have HB1 := hide (HBA.out.trans (hb1.mono (by simp))); have hs1 : w.heap.size < w1.heap.size := by have := hb1.size; simp at this; omega
  have HN1 := hide ((hb1.block w.heap.size (by simp)).trans HB0.out)
  have HL1 := hide (HL.out.below HB1.out)
  clear hb1 HL
  go_wp2_with fail
  refine (made_any A n cap L w1 w.heap.size (by omega) HL1.out).mono ?_
  rintro e w2 ⟨g, h, x, rfl, hg, hh, hne, hg2, hh2, hf2, ha2, hb2⟩
  have HG2 := hide hg2; have HB2 := hide (HB1.out.trans (hb2.mono (by omega)))
  have HN2 := hide ((hb2.block w.heap.size hs1).trans HN1.out)
  have hs2 : w.heap.size < w2.heap.size := by have := hb2.size; omega
  have hgw : w.heap.size < g := by omega
  have HF := hide hf2
  clear hg2 hh2 hb2 ha2 hf2 hh hne
  by_cases hlo : now < 0
  · go_wp2_with fail
    go_ret
    exact ⟨rfl, HB2.out⟩
  by_cases hhi : 549755813888 < now
  · go_wp2_with fail
    go_ret
    exact ⟨rfl, HB2.out⟩
  have hlo' : 0 ≤ now := by omega
  have hhi' : now ≤ 549755813888 := by omega
  obtain ⟨i1, m1⟩ := mom_of (now := now) (by omega) (by omega)
  obtain ⟨i2, m2⟩ := mom_of (now := now + 200) (by omega) (by omega)
  obtain ⟨i3, m3⟩ := mom_of (now := now + 201) (by omega) (by omega)
  have HX1 := hide (show x.enable false now = x.down by unfold ES.enable; rw [i1]; rfl)
  have hE : x.down.takeE la lp d now = 7 := by unfold ES.takeE; rw [i1]; rfl
  have HE := hide hE
  have HT := hide (show x.down.takeT la lp d now = false by unfold ES.takeT; rw [hE]; rfl)
  have HX2 := hide (show x.down.take la lp d now = x.down by unfold ES.take; rw [hE]; rfl)
  have HX3 := hide (tick_rest (x := x.down) (now + 200) (.inl rfl))
  have HX4 := hide (show x.down.enable true (now + 201) = x.down.expire (now + 201) by unfold ES.enable; rw [i3]; rfl)
  have HF1 := hide (show x.down.fine from ⟨⟨by show (0 : Int) ≤ 0; decide, by show (0 : Int) ≤ 3; decide⟩, HF.out.f⟩)
  have HM1 := hide m1; have HM2 := hide m2; have HM3 := hide m3
  clear i1 i2 i3 m1 m2 m3 hE HF
  go_wp2_with fail
  refine (enable_any g x false now w2 HG2.out).mono ?_
  rintro e w3 ⟨rfl, hg3, hf3⟩
  rw [HX1.out] at hg3
  rw [HM1.out]
  have HG3 := hide hg3; have HB3 := hide (HB2.out.trans (hf3.below (by omega) HB2.out.size))
  have HN3 := hide (hf3.keep HN2.out (by omega))
  have hs3 : w.heap.size < w3.heap.size := by have := hf3.size; omega
  clear hg3 hf3 HG2 HN2
  go_wp2_with fail
  refine (partner_any g x.down w3 HG3.out).mono ?_
  rintro e w4 ⟨rfl, hb4⟩
  have HG4 := hide (HG3.out.below hb4); have HB4 := hide (HB3.out.trans (hb4.mono HB3.out.size))
  have HN4 := hide ((hb4.block w.heap.size hs3).trans HN3.out)
  have hs4 : w.heap.size < w4.heap.size := by have := hb4.size; omega
  have hgl4 := HG4.out.lt
  clear hb4 HG3 HN3
  have HG4' := hide (show EndAt (w4.alloc (.cells #[.int .i64 0, .int .u8 0, .int .u8 0, .int .u8 0, .int .u8 0, .int .u8 0, .int .u8 0, .int .i64 0, .int .i64 0, .int .i64 0, .int .i64 0] 25)) g 81 x.down from (Below.heap_alloc w4 _ g hgl4).trans HG4.out)
  have HN4' := hide (show (w4.alloc (.cells #[.int .i64 0, .int .u8 0, .int .u8 0, .int .u8 0, .int .u8 0, .int .u8 0, .int .u8 0, .int .i64 0, .int .i64 0, .int .i64 0, .int .i64 0] 25)).heap[w.heap.size]? = some (.cells #[.int .i64 la.sp, .int .u8 la.m0, .int .u8 la.m1, .int .u8 la.m2, .int .u8 la.m3, .int .u8 la.m4, .int .u8 la.m5, .int .i64 la.key, .int .i64 la.pp, .int .i64 la.port, .int .i64 la.st, .int .i64 lp.sp, .int .u8 lp.m0, .int .u8 lp.m1, .int .u8 lp.m2, .int .u8 lp.m3, .int .u8 lp.m4, .int .u8 lp.m5, .int .i64 lp.key, .int .i64 lp.pp, .int .i64 lp.port, .int .i64 lp.st, .int .i64 d] 27 (0, 0)) from (Below.heap_alloc w4 _ _ hs4).trans HN4.out)
  have HZ4 := hide (heap_alloc_new w4 (.cells #[.int .i64 0, .int .u8 0, .int .u8 0, .int .u8 0, .int .u8 0, .int .u8 0, .int .u8 0, .int .i64 0, .int .i64 0, .int .i64 0, .int .i64 0] 25))
  go_wp2_with (first | (refine wpList_store_part rfl rfl w4.heap.size 0 #[.int .i64 x.down.p.sp, .int .u8 x.down.p.m0, .int .u8 x.down.p.m1, .int .u8 x.down.p.m2, .int .u8 x.down.p.m3, .int .u8 x.down.p.m4, .int .u8 x.down.p.m5, .int .i64 x.down.p.key, .int .i64 x.down.p.pp, .int .i64 x.down.p.port, .int .i64 x.down.p.st] rfl rfl 25 HZ4.out (by kernel_rfl) (by simp) (inf_one x.down.p) #[.int .i64 x.down.p.sp, .int .u8 x.down.p.m0, .int .u8 x.down.p.m1, .int .u8 x.down.p.m2, .int .u8 x.down.p.m3, .int .u8 x.down.p.m4, .int .u8 x.down.p.m5, .int .i64 x.down.p.key, .int .i64 x.down.p.pp, .int .i64 x.down.p.port, .int .i64 x.down.p.st] rfl ?_; intro w5 hf5 hb5; have HP5 := hide hb5; have HF5 := hide hf5; have HN5 := hide (hf5.keep HN4'.out (by omega)); clear hf5 hb5) | (refine wpList_load_part rfl 27 (.tmp 4) rfl w.heap.size 0 rfl 27 _ #[.int .i64 la.sp, .int .u8 la.m0, .int .u8 la.m1, .int .u8 la.m2, .int .u8 la.m3, .int .u8 la.m4, .int .u8 la.m5, .int .i64 la.key, .int .i64 la.pp, .int .i64 la.port, .int .i64 la.st, .int .i64 lp.sp, .int .u8 lp.m0, .int .u8 lp.m1, .int .u8 lp.m2, .int .u8 lp.m3, .int .u8 lp.m4, .int .u8 lp.m5, .int .i64 lp.key, .int .i64 lp.pp, .int .i64 lp.port, .int .i64 lp.st, .int .i64 d] (0, 0) _ HN5.out Try.underlying27 rfl (by kernel_rfl) rfl ?_))
  have HG5 := hide (HG4'.out.frm HF5.out (by omega))
  have HB5 := hide ((HB4.out.alloc HB4.out.size (.cells #[.int .i64 0, .int .u8 0, .int .u8 0, .int .u8 0, .int .u8 0, .int .u8 0, .int .u8 0, .int .i64 0, .int .i64 0, .int .i64 0, .int .i64 0] 25)).trans (HF5.out.below (by omega) (by have := HB4.out.size; simp; omega)))
  obtain ⟨b, hb⟩ : ∃ b, b = w4.heap.size := ⟨_, rfl⟩
  have hs5 : b < w5.heap.size := by have := HF5.out.size; simp at this; omega
  have hgb : g < b := by omega
  rw [← hb] at HP5 ⊢
  have hb1' : b ≤ w4.heap.size := by omega
  have hb2' : w4.heap.size ≤ b := by omega
  clear hb HG4' HN4' HZ4 HG4 HN4 HF5
  refine (take_any g x.down la lp d now w5 HG5.out).mono ?_
  rintro e w6 ⟨rfl, hg6, hf6⟩
  rw [HX2.out] at hg6
  rw [HE.out, HT.out]
  have HG6 := hide hg6; have HB6 := hide (HB5.out.trans (hf6.below (by omega) HB5.out.size))
  have HP6 := hide (hf6.keep HP5.out (by omega))
  have hs6 : b < w6.heap.size := by have := hf6.size; omega
  clear hg6 hf6 HG5 HP5
  go_wp2_with fail
  refine (tick_any g x.down (now + 200) w6 HF1.out HG6.out).mono ?_
  rintro e w7 ⟨rfl, hg7, hf7⟩
  rw [HX3.out] at hg7
  rw [HM2.out]
  have HG7 := hide hg7; have HB7 := hide (HB6.out.trans (hf7.below (by omega) HB6.out.size))
  have HP7 := hide (hf7.keep HP6.out (by omega))
  have hs7 : b < w7.heap.size := by have := hf7.size; omega
  clear hg7 hf7 HG6 HP6
  have q8 : (bits .and .i64 x.down.p.st 8 != 0) = false := by
    rw [and8']
    show hb (bits .andNot .i64 x.p.st 8) 3 = false
    rw [hb_andNot _ _ _ (by decide), hb_lit bit8 (by decide) 3 (by decide)]
    simp
  go_wp2_with fail
  refine wp_region_class (by kernel_rfl) (by kernel_rfl) (fun C hC hS hN => ?_)
  have KG := hide (show ∀ u : Of C, EndAt u.w g 81 x.down from fun u => HG7.out.below (hC _ u.ok))
  have KP := hide (show ∀ u, (∃ x : Of C, u = x.w) → u.heap[b]? = some (.cells #[.int .i64 x.down.p.sp, .int .u8 x.down.p.m0, .int .u8 x.down.p.m1, .int .u8 x.down.p.m2, .int .u8 x.down.p.m3, .int .u8 x.down.p.m4, .int .u8 x.down.p.m5, .int .i64 x.down.p.key, .int .i64 x.down.p.pp, .int .i64 x.down.p.port, .int .i64 x.down.p.st] 25 (0, 0)) from fun u ⟨y, hy⟩ => by rw [hy]; exact ((hC _ y.ok).block b hs7).trans HP7.out)
  have c10 : ∀ u : Of C, u.w.cell? ⟨b, 10, none⟩ = some (.int .i64 x.down.p.st) := fun u => cell_of_row u.w b 10 _ 25 (0, 0) (KP.out u.w ⟨u, rfl⟩)
  have hds : x.down.s = 0 := rfl
  have HS := hide hS; clear hS
  repeat (first
    | (go_big_quiet_want; refine quiet_load_part 25 (.tmp 12) rfl b 0 rfl 25 _ #[.int .i64 x.down.p.sp, .int .u8 x.down.p.m0, .int .u8 x.down.p.m1, .int .u8 x.down.p.m2, .int .u8 x.down.p.m3, .int .u8 x.down.p.m4, .int .u8 x.down.p.m5, .int .i64 x.down.p.key, .int .i64 x.down.p.pp, .int .i64 x.down.p.port, .int .i64 x.down.p.st] (0, 0) _ KP.out Try.underlying25 rfl (by kernel_rfl) rfl ?_; go_big_quiet_on; simp only [Act.put, List.setIfInBounds_toArray, List.set_cons_succ, List.set_cons_zero])
    | (go_big_quiet_want; refine quiet_run (.bool false) (fun w => run_ne_same (x := x.down.p) w rfl rfl rfl) ?_; go_big_quiet_on; simp only [Act.put, List.setIfInBounds_toArray, List.set_cons_succ, List.set_cons_zero])
    | go_big_quiet_step ((first
      | (go_at_call 29; exact Calls.of_class HS.out ((state_any g 81 x.down _ (KG.out _)).mono fun e w' ⟨a, b⟩ => ⟨a, b ▸ Below.refl _ _⟩))
      | (go_at_call 32; exact Calls.of_class HS.out (partner_any g x.down _ (KG.out _))))))
  refine wpQuiet_nil ?_
  intro u hu
  have HG8 := hide (HG7.out.below hu); have HB8 := hide (HB7.out.trans (hu.mono HB7.out.size))
  clear hu c10 q8
  go_wp2_with fail
  refine (enable_any g x.down true (now + 201) u HG8.out).mono ?_
  rintro e w9 ⟨rfl, hg9, hf9⟩
  rw [HX4.out] at hg9
  rw [HM3.out]
  have HG9 := hide hg9; have HB9 := hide (HB8.out.trans (hf9.below (by omega) HB8.out.size))
  clear hg9 hf9 HG8
  go_wp2_with fail
  refine (state_any g 81 _ w9 HG9.out).mono ?_
  rintro e w' ⟨rfl, rfl⟩
  rw [show (x.down.expire (now + 201)).s = 1 from rfl]
  go_wp2_with fail
  refine (actor_any g _ w9 HG9.out).mono ?_
  rintro e w10 ⟨rfl, hb10⟩
  have HG10 := hide (HG9.out.below hb10); have HB10 := hide (HB9.out.trans (hb10.mono HB9.out.size))
  clear hb10
  have fs := field_st
  have q128 : (bits .and .i64 (x.down.expire (now + 201)).actor.st 128 != 0) = true := by
    rw [and128']
    show hb (bits .or .i64 (bits .or .i64 x.a.st x.m) 128) 7 = true
    rw [hb_or, hb_lit bit128 (by decide) 7 (by decide)]
    simp
  go_wp2_with fail
  refine (partner_any g _ w10 HG10.out).mono ?_
  rintro e w11 ⟨rfl, hb11⟩
  have HB11 := hide (HB10.out.trans (hb11.mono HB10.out.size))
  clear hb11 q128
  have q2 : (bits .and .i64 (x.down.expire (now + 201)).p.st 2 != 0) = true := by
    rw [and2']
    show hb (bits .or .i64 (bits .andNot .i64 x.down.p.st 8) 2) 1 = true
    rw [hb_or, hb_lit bit2 (by decide) 1 (by decide)]
    simp
  go_wp2_with fail
  go_ret
  exact ⟨rfl, HB11.out⟩

/-! ### The row -/
set_option maxRecDepth 100000 in
theorem rxDown_lifted (os : Os) (started : os.Started) (H : Type) (enc : TypeId × Value → H) :
    ReturnsInHanded {} Try.checked os 13 .any (Rows.rxDownSpec.pre6 enc Try.prog Try.f13 Rows.rxDownRow.domain false) (Rows.rxDownSpec.post enc Try.prog Try.f13 false true false false) := by
  refine returnsInHanded_of_change (C := Try.checked) own started (by kernel_rfl) Try.func13
    (ChangeSpec.witness6 (enc := enc) (C := Try.checked) false ⟨#[], #[.slice none 0 0, .agg #[.int .i64 0, .int .u8 0, .int .u8 0, .int .u8 0, .int .u8 0, .int .u8 0, .int .u8 0, .int .i64 0, .int .i64 0, .int .i64 0, .int .i64 0, .int .i64 0, .int .u8 0, .int .u8 0, .int .u8 0, .int .u8 0, .int .u8 0, .int .u8 0, .int .i64 0, .int .i64 0, .int .i64 0, .int .i64 0, .int .i64 0], .int .i64 0], []⟩ 8 (by kernel_rfl) (by kernel_rfl) (by kernel_rfl) (by kernel_rfl)) ?_
  intro W base args ds gs before hval0 hW hcnd _
  have hval : ∀ (j : Nat) t v, Try.f13.params[j]? = some t → args[j]? = some v → Value.okWide Try.prog W .any base t v := hval0
  have hW' : DataW.Whole enc Try.prog Try.f13.params.toList Rows.rxDownSpec.vars false W args.toList ds gs before := hW
  have hlen : args.toList.length = Try.f13.params.toList.length ∧ ds.length = Try.f13.params.toList.length := by
    obtain ⟨p, q, hA, _⟩ := hW'
    exact trodAll_len _ _ _ _ hA
  rw [Try.params13] at hval hlen
  obtain ⟨p0, p1, p2, rfl⟩ := args3 args hlen.1
  obtain ⟨d0, d1, d2, rfl⟩ := list3 ds hlen.2
  obtain rfl : gs = [] := by
    obtain ⟨p, q, _, hV, _⟩ := hW'
    exact (trodVars_none hV).1
  obtain ⟨_, _, hA, _⟩ := id hW'
  rw [Try.params13] at hA
  obtain ⟨_, _, hT0, hA, _⟩ := hA
  obtain ⟨_, _, hT1, hA, _⟩ := hA
  obtain ⟨_, _, hT2, hA, _⟩ := hA
  obtain ⟨A, n, cap, L, rfl, hl⟩ := open_rsteps (hval 0 41 p0 rfl rfl) hT0
  obtain ⟨xa, xp, xd, rfl, hxa, hxp, hxd⟩ := open_lacp (hval 1 27 p1 rfl rfl)
  obtain ⟨now, rfl, hnow⟩ := open_i64 (hval 2 3 p2 rfl rfl)
  refine (rxDown_any A n cap L xa xp xd now W hl hxa hxp hxd hnow).mono fun e W' ⟨he, hb⟩ => ?_
  subst he
  have hp : ∀ t ∈ Try.f13.params.toList, Try.prog.readableRec t = true ∧ t < Try.prog.types.size := by
    rw [Try.params13]
    intro t ht
    simp at ht
    rcases ht with rfl | rfl | rfl
    all_goals first | exact readable27 | exact readable3 | exact readable41
  have hpost := law_post (enc := enc) (P := Try.prog) (f := Try.f13) (s := Rows.rxDownSpec) (tb := 4) (W' := W') laidOut hW' rfl (by kernel_rfl) Try.underlying4 hp ⟨rfl, rfl, rfl⟩ hb
  exact ⟨_, rfl, hpost⟩

theorem rxDown_holds : Rows.RxDownSaid :=
  OpenClaim.holds_of_wide 13 Try.f13 rfl rfl rfl rfl rfl rfl rfl ⟨rfl, rfl, rfl, rfl, rfl⟩ rfl rfl rfl rfl rfl (by kernel_rfl) Try.func13 (by kernel_rfl)
    (of_decide_eq_true (by kernel_rfl)) (by unfold Func.isWrapper; first | (rw [if_pos (by decide +kernel)]; kernel_rfl) | (rw [if_neg (by decide +kernel)]; exact ⟨rfl, rfl⟩))
    (fun os started H enc _ => rxDown_lifted os started H enc)
#print axioms rxDown_holds
end Go.Proofs.Ytooieocfgifpgaa

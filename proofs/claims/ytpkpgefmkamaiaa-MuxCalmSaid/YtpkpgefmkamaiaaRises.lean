/-
  Proved: MuxRises: a link that is selected, of a ready partner, rises in four steps, and is Detached at once when it is not; the law answers true.
  No condition.
-/
import Derived.Test.YtpkpgefmkamaiaaSends
namespace Go.Proofs.Ytpkpgefmkamaiaa
open Go.RowKit Go.ChangeShapes Go.WideShapes Go.ChangeAt
set_option linter.unusedVariables false

theorem rise_err (p now : Int) (hn : 0 ≤ now ∧ now ≤ 1099511627776) (hp : 0 ≤ p ∧ p ≤ 255) : stepErr p now = 0 := by
  unfold stepErr
  rw [if_pos ⟨hn.1, hn.2, hp.1, hp.2⟩]
theorem rise_any (sel : Bool) (s f p now : Int) (hn : 0 ≤ now ∧ now ≤ 1099511627776) (hp : 0 ≤ p ∧ p ≤ 255) (hs : 0 ≤ s ∧ s ≤ 4) :
    stepAny sel s f p now = if nextS sel s f p now < 0 then ⟨s, f, false⟩ else ⟨nextS sel s f p now, if nextS sel s f p now = 1 then now else f, true⟩ := by
  unfold stepAny
  rw [if_pos ⟨hn.1, hn.2, hp.1, hp.2⟩, stepS_next _ _ _ _ _ hs]

/-- A step whose outcome is known. -/
theorem rise_step (g : Nat) (sel : Bool) (s f p now s' f' : Int) (did : Bool) (w : World) (hm : MuxAt w g 41 s f) (hn : 0 ≤ now ∧ now ≤ 1099511627776) (hp : 0 ≤ p ∧ p ≤ 255) (hq : stepAny sel s f p now = ⟨s', f', did⟩) :
    Calls Try.prog 11 #[.pointer (some ⟨g, 0, none⟩), .bool sel, .int .i64 p, .int .i64 now] w fun e w' => e = .returned (.tuple #[.bool did, .int .i64 0]) ∧ w.grownBy w' (some g) ∧ MuxAt w' g 41 s' f' := by
  have h := step_all g sel s f p now w hm
  rw [rise_err p now hn hp, hq] at h
  exact h

theorem fall (s f p now : Int) (hn : 0 ≤ now ∧ now ≤ 1099511627776) (hp : 0 ≤ p ∧ p ≤ 255) (hs : 0 ≤ s ∧ s ≤ 4) : ∃ did, stepAny false s f p now = ⟨0, f, did⟩ := by
  rw [rise_any false s f p now hn hp hs]
  by_cases h : s = 0
  · subst h; exact ⟨false, rfl⟩
  · exact ⟨true, by simp [nextS, h]⟩

set_option maxRecDepth 100000 in
set_option maxHeartbeats 4000000 in
theorem muxRises_any (A : Option Addr) (n cap : Nat) (L : Nat → St) (now later : Int) (w : World) (hl : StepsAt w w.heap.size A n L) (hnow : -9223372036854775808 ≤ now ∧ now ≤ 9223372036854775807) (hlater : -9223372036854775808 ≤ later ∧ later ≤ 9223372036854775807) :
    Calls Try.prog 5 #[.slice A n cap, .int .i64 now, .int .i64 later] w fun e w' => e = .returned (.bool true) ∧ Below w.heap.size w w' := by
  have HL := hide hl; clear hl
  rcases (show now < 0 ∨ (0 ≤ now ∧ 549755813888 < now) ∨ (0 ≤ now ∧ now ≤ 549755813888 ∧ later < 2) ∨ (0 ≤ now ∧ now ≤ 549755813888 ∧ 2 ≤ later ∧ 549755813888 < later) ∨ (0 ≤ now ∧ now ≤ 549755813888 ∧ 2 ≤ later ∧ later ≤ 549755813888) by omega) with h | ⟨h, h'⟩ | ⟨h, h', h2⟩ | ⟨h, h', h2, h3⟩ | ⟨h, h', h2, h3⟩
  case inr.inr.inr.inr =>
    have k0 : (0 : Int) ≤ now ∧ now ≤ 1099511627776 := by omega
    have k1 : (0 : Int) ≤ now + later ∧ now + later ≤ 1099511627776 := by omega
    have p0 : (0 : Int) ≤ 0 ∧ (0 : Int) ≤ 255 := by decide
    have p24 : (0 : Int) ≤ 24 ∧ (24 : Int) ≤ 255 := by decide
    have p255 : (0 : Int) ≤ 255 ∧ (255 : Int) ≤ 255 := by decide
    have b1 : bits .and .i64 24 8 = 8 := by decide
    have b2 : bits .and .i64 24 16 = 16 := by decide
    have q1 : ∀ f, stepAny true 0 f 24 now = ⟨1, now, true⟩ := fun f => by rw [rise_any true 0 f 24 now k0 p24 (by decide)]; simp [nextS]
    have q2 : stepAny true 1 now 24 (now + later) = ⟨2, now, true⟩ := by rw [rise_any true 1 now 24 _ k1 p24 (by decide)]; simp [nextS, show 2 ≤ now + later - now by omega]
    have q3 : stepAny true 2 now 24 (now + later) = ⟨3, now, true⟩ := by rw [rise_any true 2 now 24 _ k1 p24 (by decide)]; simp [nextS, hasB, b1]
    have q4 : stepAny true 3 now 24 (now + later) = ⟨4, now, true⟩ := by rw [rise_any true 3 now 24 _ k1 p24 (by decide)]; simp [nextS, hasB, b1, b2]
    have K0 := hide k0; have K1 := hide k1; have P0 := hide p0; have P24 := hide p24; have P255 := hide p255
    have Q1 := hide q1; have Q2 := hide q2; have Q3 := hide q3; have Q4 := hide q4
    have hw : IntKind.i64.wrap (now + later) = now + later := IntWalk.i64_in (now + later) ⟨by omega, by omega⟩
    clear k0 k1 p0 p24 p255 q1 q2 q3 q4 b1 b2
    go_enter Try.func5, Try.ntmps5
    go_wp2_with fail
    refine (awake_any _).mono ?_
    rintro e w1 ⟨rfl, hb1⟩
    have hz1 := hb1.size
    go_wp2_with fail
    refine (made_any A n cap L w1 (HL.out.grow hb1 (by omega))).mono ?_
    rintro e w2 ⟨g, s, f, rfl, hb2, hg, hm, -⟩
    obtain ⟨did, hq⟩ := fall s f 0 now K0.out P0.out hm.2.1
    have HM := hide hm; have HQ := hide hq; clear hm hq
    have hz2 := hb2.size
    have hb2 : Below w.heap.size w w2 := hb1.trans (hb2.mono (by omega))
    go_wp2_with fail
    refine (rise_step g false s f 0 now 0 f did w2 HM.out K0.out P0.out HQ.out).mono ?_
    rintro e w3 ⟨rfl, hgr, hm⟩
    have hb3 : Below w.heap.size w w3 := hb2.trans (below_of_grown hgr (by omega) (by omega))
    have hz3 := hgr.size
    clear hgr
    have HM3 := hide hm; clear hm
    have hst : w3.cell? ⟨g, 0, none⟩ = some (.int .i64 0) := cell_of_row w3 _ 0 _ 41 (0, 0) HM3.out.1
    go_wp2_with fail
    refine (state_any _ _ _ hst).mono ?_
    rintro e w4 ⟨rfl, rfl⟩
    go_wp2_with fail
    refine (bits_any _ _ _ hst (by decide)).mono ?_
    rintro e w4 ⟨rfl, rfl⟩
    have e0 : bitsS 0 = 0 := by decide
    go_wp2_with fail
    refine wp_loop_rounds 5 ?_
    rw [rounds_succ]
    go_wp2_with fail
    refine (rise_step g true 0 f 24 now 1 now true w3 HM3.out K0.out P24.out (Q1.out f)).mono ?_
    rintro e w4 ⟨rfl, hgr, hm⟩
    have hb4 : Below w.heap.size w w4 := hb3.trans (below_of_grown hgr (by omega) (by omega))
    have hz4 := hgr.size
    clear hgr
    have HM4 := hide hm; clear hm hst
    have hst : w4.cell? ⟨g, 0, none⟩ = some (.int .i64 1) := cell_of_row w4 _ 0 _ 41 (0, 0) HM4.out.1
    go_wp2_with fail
    refine (state_any _ _ _ hst).mono ?_
    rintro e w5 ⟨rfl, rfl⟩
    go_wp2_with fail
    rw [rounds_succ]
    go_wp2_with fail
    refine (rise_step g true 1 now 24 (now + later) 2 now true w4 HM4.out K1.out P24.out Q2.out).mono ?_
    rintro e w5 ⟨rfl, hgr, hm⟩
    have hb5 : Below w.heap.size w w5 := hb4.trans (below_of_grown hgr (by omega) (by omega))
    have hz5 := hgr.size
    clear hgr
    have HM5 := hide hm; clear hm hst
    have hst : w5.cell? ⟨g, 0, none⟩ = some (.int .i64 2) := cell_of_row w5 _ 0 _ 41 (0, 0) HM5.out.1
    go_wp2_with fail
    refine (state_any _ _ _ hst).mono ?_
    rintro e w6 ⟨rfl, rfl⟩
    go_wp2_with fail
    rw [rounds_succ]
    go_wp2_with fail
    refine (rise_step g true 2 now 24 (now + later) 3 now true w5 HM5.out K1.out P24.out Q3.out).mono ?_
    rintro e w6 ⟨rfl, hgr, hm⟩
    have hb6 : Below w.heap.size w w6 := hb5.trans (below_of_grown hgr (by omega) (by omega))
    have hz6 := hgr.size
    clear hgr
    have HM6 := hide hm; clear hm hst
    have hst : w6.cell? ⟨g, 0, none⟩ = some (.int .i64 3) := cell_of_row w6 _ 0 _ 41 (0, 0) HM6.out.1
    go_wp2_with fail
    refine (state_any _ _ _ hst).mono ?_
    rintro e w7 ⟨rfl, rfl⟩
    go_wp2_with fail
    rw [rounds_succ]
    go_wp2_with fail
    refine (rise_step g true 3 now 24 (now + later) 4 now true w6 HM6.out K1.out P24.out Q4.out).mono ?_
    rintro e w7 ⟨rfl, hgr, hm⟩
    have hb7 : Below w.heap.size w w7 := hb6.trans (below_of_grown hgr (by omega) (by omega))
    have hz7 := hgr.size
    clear hgr
    obtain ⟨did', hq⟩ := fall 4 now 255 now K0.out P255.out hm.2.1
    have HM7 := hide hm; have HQ' := hide hq; clear hm hst hq
    have hst : w7.cell? ⟨g, 0, none⟩ = some (.int .i64 4) := cell_of_row w7 _ 0 _ 41 (0, 0) HM7.out.1
    go_wp2_with fail
    refine (state_any _ _ _ hst).mono ?_
    rintro e w8 ⟨rfl, rfl⟩
    go_wp2_with fail
    rw [rounds_succ]
    go_wp2_with fail
    refine (rise_step g false 4 now 255 now 0 now did' w7 HM7.out K0.out P255.out HQ'.out).mono ?_
    rintro e w8 ⟨rfl, hgr, hm⟩
    have hb8 : Below w.heap.size w w8 := hb7.trans (below_of_grown hgr (by omega) (by omega))
    have hst : w8.cell? ⟨g, 0, none⟩ = some (.int .i64 0) := cell_of_row w8 _ 0 _ 41 (0, 0) hm.1
    have HB8 := hide hb8
    clear hgr hm
    go_wp2_with fail
    refine (state_any _ _ _ hst).mono ?_
    rintro e w9 ⟨rfl, rfl⟩
    go_wp2_with fail
    go_ret
    exact ⟨rfl, HB8.out⟩
  all_goals
    go_enter Try.func5, Try.ntmps5
    go_wp2_with fail
    refine (awake_any _).mono ?_
    rintro e w1 ⟨rfl, hb1⟩
    have hz1 := hb1.size
    go_wp2_with fail
    refine (made_any A n cap L w1 (HL.out.grow hb1 (by omega))).mono ?_
    rintro e w2 ⟨g, s, f, rfl, hb2, hg, hm, -⟩
    have hb2 : Below w.heap.size w w2 := hb1.trans (hb2.mono (by omega))
    go_wp2_with fail
    go_ret
    exact ⟨rfl, hb2⟩

/-! ### The row -/
set_option maxRecDepth 100000 in
theorem muxRises_lifted (os : Os) (started : os.Started) (H : Type) (enc : TypeId × Value → H) :
    ReturnsInHanded {} Try.checked os 5 .any (Rows.muxRisesSpec.pre6 enc Try.prog Try.f5 Rows.muxRisesRow.domain false) (Rows.muxRisesSpec.post enc Try.prog Try.f5 false true false false) := by
  refine returnsInHanded_of_change (C := Try.checked) own started (by kernel_rfl) Try.func5
    (ChangeSpec.witness6 (enc := enc) (C := Try.checked) false ⟨#[], #[.slice none 0 0, .int .i64 0, .int .i64 0], []⟩ 8 (by kernel_rfl) (by kernel_rfl) (by kernel_rfl) (by kernel_rfl)) ?_
  intro W base args ds gs before hval0 hW hcnd _
  have hval : ∀ (j : Nat) t v, Try.f5.params[j]? = some t → args[j]? = some v → Value.okWide Try.prog W .any base t v := hval0
  have hW' : DataW.Whole enc Try.prog Try.f5.params.toList Rows.muxRisesSpec.vars false W args.toList ds gs before := hW
  have hlen : args.toList.length = Try.f5.params.toList.length ∧ ds.length = Try.f5.params.toList.length := by
    obtain ⟨p, q, hA, _⟩ := hW'
    exact trodAll_len _ _ _ _ hA
  rw [Try.params5] at hval hlen
  obtain ⟨p0, p1, p2, rfl⟩ := args3 args hlen.1
  obtain ⟨d0, d1, d2, rfl⟩ := list3 ds hlen.2
  obtain rfl : gs = [] := by
    obtain ⟨p, q, _, hV, _⟩ := hW'
    exact (trodVars_none hV).1
  obtain ⟨_, _, hA, _⟩ := id hW'
  rw [Try.params5] at hA
  obtain ⟨_, _, hT0, hA, _⟩ := hA
  obtain ⟨_, _, hT1, hA, _⟩ := hA
  obtain ⟨_, _, hT2, hA, _⟩ := hA
  obtain ⟨A, n, cap, L, rfl, hl⟩ := open_steps (hval 0 22 p0 rfl rfl) hT0
  obtain ⟨now, rfl, hnow⟩ := open_i64 (hval 1 3 p1 rfl rfl)
  obtain ⟨later, rfl, hlater⟩ := open_i64 (hval 2 3 p2 rfl rfl)
  refine (muxRises_any A n cap L now later W hl hnow hlater).mono fun e W' ⟨he, hb⟩ => ?_
  subst he
  have hp : ∀ t ∈ Try.f5.params.toList, Try.prog.readableRec t = true ∧ t < Try.prog.types.size := by
    rw [Try.params5]
    intro t ht
    simp at ht
    rcases ht with rfl | rfl
    all_goals first | exact readable22 | exact readable3
  have hpost := law_post (enc := enc) (P := Try.prog) (f := Try.f5) (s := Rows.muxRisesSpec) (tb := 4) (W' := W') laidOut hW' rfl (by kernel_rfl) Try.underlying4 hp ⟨rfl, rfl, rfl⟩ hb
  exact ⟨_, rfl, hpost⟩

theorem muxRises_holds : Rows.MuxRisesSaid :=
  OpenClaim.holds_of_wide 5 Try.f5 rfl rfl rfl rfl rfl rfl rfl ⟨rfl, rfl, rfl, rfl, rfl⟩ rfl rfl rfl rfl rfl (by kernel_rfl) Try.func5 (by kernel_rfl)
    (of_decide_eq_true (by kernel_rfl)) (by unfold Func.isWrapper; first | (rw [if_pos (by decide +kernel)]; kernel_rfl) | (rw [if_neg (by decide +kernel)]; exact ⟨rfl, rfl⟩))
    (fun os started H enc _ => muxRises_lifted os started H enc)
#print axioms muxRises_holds
end Go.Proofs.Ytpkpgefmkamaiaa

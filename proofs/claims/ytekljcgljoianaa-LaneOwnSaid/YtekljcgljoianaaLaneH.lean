/-
  A lane and the reference's: whatever step.
-/
import Derived.Test.YtekljcgljoianaaLaneG
namespace Go.Proofs.Ytekljcgljoianaa
open Go.RowKit Go.WideShapes Go.ChangeShapes
set_option linter.unusedVariables false

set_option maxRecDepth 100000 in
set_option maxHeartbeats 4000000 in
theorem step_any (X : Nat → Prop) (g rg h : Nat) (x : LS) (d : Int) (A : Option Addr) (n cap : Nat) (b : List UInt8) (w : World) (hb : Both w X g rg h x) (hK : x.asked < 1000000) (hv : RowAt w X (.slice A n cap) b) (hn : n ≤ 140737488355328) :
    Calls Try.prog 18 #[.pointer (some ⟨g, 0, none⟩), .pointer (some ⟨h, 0, none⟩), .agg #[.int .i64 d, .slice A n cap]] w fun e w' => e = .returned (.bool true) ∧ Chg X w w' ∧ Both w' X g rg h (x.step d b) := by
  by_cases h0 : d = 0
  · subst h0
    exact step_put X g rg h x A n cap b w hb hK hv hn
  haveI sL := hb.subL
  haveI sR := hb.subR
  have HB := hide hb
  have hB1 := hide (hb.below ((Below.refl _ _).alloc (Nat.le_refl _) (.cells #[.int .i64 d, .slice A n cap] 38)))
  have q := hb.lane.size
  have qh := hb.ref.size
  clear hb hv
  by_cases h1 : d = 1
  · subst h1
    rw [show x.step 1 b = x.get from rfl]
    go_enter Try.func18, Try.ntmps18
    go_wp2_with fail
    refine (get_any X (YL g rg) g rg x _ (.inl rfl) HB.out.fine hB1.out.lane).mono ?_
    rintro e w1 (⟨hQ, rfl, rfl⟩ | ⟨q1, r1, v1, hQ, rfl, hrow1, hc1, hl1⟩)
    · have HQ := hide hQ; clear hQ
      go_wp2_with fail
      refine (refGet_any X (YR h) h x _ rfl HB.out.fine hB1.out.ref).mono ?_
      rintro e w2 (⟨hQ, rfl, rfl⟩ | ⟨q2, r2, v2, hQ, rfl, hrow2, hc2, hr2⟩)
      · have hcv := fun (u : World) => Go.Lib.run_convert_nil_bytes (P := Try.prog) u 29 9 5 0 Try.underlying29 Try.underlying5 Try.underlying9
        clear hQ
        go_wp2_with fail
        go_ret
        refine ⟨rfl, (Chg.refl X w).alloc _, ?_⟩
        rw [show x.get = x by unfold LS.get; rw [HQ.out]]
        exact hB1.out
      · rw [HQ.out] at hQ; cases hQ
    · have HQ := hide hQ; have HR1 := hide hrow1; have HC1 := hide hc1; have HL1 := hide hl1
      have hR1 := hide (hB1.out.ref.beside sL HB.out.hg HB.out.hr hc1)
      clear hQ hrow1 hc1 hl1
      go_wp2_with fail
      refine (refGet_any X (YR h) h x _ rfl HB.out.fine hR1.out).mono ?_
      rintro e w2 (⟨hQ, rfl, rfl⟩ | ⟨q2, r2, v2, hQ, rfl, hrow2, hc2, hr2⟩)
      · rw [HQ.out] at hQ; cases hQ
      · rw [HQ.out] at hQ
        injection hQ with e1 e2
        subst e1 e2
        have HC2 := hide hc2; have HR2 := hide hr2
        have hrow3 := HR1.out.chg hc2
        obtain ⟨A1, c1, rfl⟩ := hrow3.form
        obtain ⟨A2, c2, rfl⟩ := hrow2.form
        have hv1 := convert_row hrow3
        have hv2 := convert_row hrow2
        clear hrow2 hrow3 hc2 hr2
        go_wp2_with fail
        go_ret
        refine ⟨by simp, ((Chg.refl X w).alloc _).trans (HC1.out.sub.trans HC2.out.sub), HL1.out.beside sR HB.out.hg HB.out.hr HC2.out, HR2.out, HB.out.fine.get, HB.out.xg, HB.out.xr, HB.out.xh, HB.out.only, HB.out.hg, HB.out.hr⟩
  by_cases h2 : d = 2
  · subst h2
    rw [show x.step 2 b = x.lose from rfl]
    go_enter Try.func18, Try.ntmps18
    go_wp2_with fail
    refine (lose_any X (YL g rg) g rg x _ (.inl rfl) HB.out.fine hB1.out.lane).mono ?_
    rintro e w1 (⟨hQ, rfl, rfl⟩ | ⟨q1, r1, hQ, rfl, hc1, hl1⟩)
    · have HQ := hide hQ; clear hQ
      go_wp2_with fail
      refine (refLose_any X (YR h) h x _ rfl HB.out.fine hB1.out.ref).mono ?_
      rintro e w2 (⟨hQ, rfl, rfl⟩ | ⟨q2, r2, hQ, rfl, hc2, hr2⟩)
      · clear hQ
        go_wp2_with fail
        go_ret
        refine ⟨rfl, (Chg.refl X w).alloc _, ?_⟩
        rw [show x.lose = x by unfold LS.lose; rw [HQ.out]]
        exact hB1.out
      · rw [HQ.out] at hQ; cases hQ
    · have HQ := hide hQ; have HC1 := hide hc1; have HL1 := hide hl1
      have hR1 := hide (hB1.out.ref.beside sL HB.out.hg HB.out.hr hc1)
      clear hQ hc1 hl1
      go_wp2_with fail
      refine (refLose_any X (YR h) h x _ rfl HB.out.fine hR1.out).mono ?_
      rintro e w2 (⟨hQ, rfl, rfl⟩ | ⟨q2, r2, hQ, rfl, hc2, hr2⟩)
      · rw [HQ.out] at hQ; cases hQ
      · have HC2 := hide hc2; have HR2 := hide hr2
        clear hQ hc2 hr2
        go_wp2_with fail
        go_ret
        refine ⟨rfl, ((Chg.refl X w).alloc _).trans (HC1.out.sub.trans HC2.out.sub), HL1.out.beside sR HB.out.hg HB.out.hr HC2.out, HR2.out, HB.out.fine.lose, HB.out.xg, HB.out.xr, HB.out.xh, HB.out.only, HB.out.hg, HB.out.hr⟩
  by_cases h3 : d = 3
  · subst h3
    rw [show x.step 3 b = x.down from rfl]
    go_enter Try.func18, Try.ntmps18
    go_wp2_with fail
    refine (cut_any X (YL g rg) g rg x _ (.inl rfl) HB.out.fine hB1.out.lane).mono ?_
    rintro e w1 ⟨rfl, hc1, hl1⟩
    have HC1 := hide hc1; have HL1 := hide hl1
    have hR1 := hide (hB1.out.ref.beside sL HB.out.hg HB.out.hr hc1)
    clear hc1 hl1
    go_wp2_with fail
    refine (refCut_any X (YR h) h x _ rfl HB.out.fine hR1.out).mono ?_
    rintro e w2 ⟨rfl, hc2, hr2⟩
    have HC2 := hide hc2; have HR2 := hide hr2
    clear hc2 hr2
    go_wp2_with fail
    go_ret
    refine ⟨by simp, ((Chg.refl X w).alloc _).trans (HC1.out.sub.trans HC2.out.sub), HL1.out.beside sR HB.out.hg HB.out.hr HC2.out, HR2.out, HB.out.fine.down, HB.out.xg, HB.out.xr, HB.out.xh, HB.out.only, HB.out.hg, HB.out.hr⟩
  · rw [show x.step d b = x.heal by simp [LS.step, h0, h1, h2, h3]]
    go_enter Try.func18, Try.ntmps18
    go_wp2_with fail
    refine (heal_any X (YL g rg) g rg x _ (.inl rfl) hB1.out.lane).mono ?_
    rintro e w1 ⟨rfl, hc1, hl1⟩
    have HC1 := hide hc1; have HL1 := hide hl1
    have hR1 := hide (hB1.out.ref.beside sL HB.out.hg HB.out.hr hc1)
    clear hc1 hl1
    go_wp2_with fail
    refine (refHeal_any X (YR h) h x _ rfl hR1.out).mono ?_
    rintro e w2 ⟨rfl, hc2, hr2⟩
    have HC2 := hide hc2; have HR2 := hide hr2
    clear hc2 hr2
    go_wp2_with fail
    go_ret
    refine ⟨rfl, ((Chg.refl X w).alloc _).trans (HC1.out.sub.trans HC2.out.sub), HL1.out.beside sR HB.out.hg HB.out.hr HC2.out, HR2.out, HB.out.fine, HB.out.xg, HB.out.xr, HB.out.xh, HB.out.only, HB.out.hg, HB.out.hr⟩
end Go.Proofs.Ytekljcgljoianaa

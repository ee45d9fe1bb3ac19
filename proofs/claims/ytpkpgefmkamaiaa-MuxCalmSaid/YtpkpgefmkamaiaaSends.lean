/-
  Proved: MuxSends: behind a step that changes nothing the state says just what was told; the law answers true.
  No condition.
-/
import Derived.Test.YtpkpgefmkamaiaaMuxH
namespace Go.Proofs.Ytpkpgefmkamaiaa
open Go.RowKit Go.ChangeShapes Go.WideShapes Go.ChangeAt
set_option linter.unusedVariables false

theorem StepsAt.grow {w w' : World} {B : Nat} {A : Option Addr} {n : Nat} {L : Nat → St} (h : StepsAt w B A n L) (hb : Below B w w') (hB : B ≤ w'.heap.size) : StepsAt w' w'.heap.size A n L :=
  ⟨h.1, fun i hi => by
    obtain ⟨b, o, hA, hlt, r⟩ := (h.below hb).2 i hi
    exact ⟨b, o, hA, by omega, r⟩⟩

theorem sends_cases (x : St) (s f : Int) (hs : 0 ≤ s ∧ s ≤ 4) : (stepErr x.p x.now = 1 ∧ (stepAny x.sel s f x.p x.now).did = false) ∨ (stepErr x.p x.now = 0 ∧ (stepAny x.sel s f x.p x.now).did = true) ∨
    (stepErr x.p x.now = 0 ∧ (stepAny x.sel s f x.p x.now).did = false ∧ (stepAny x.sel s f x.p x.now).s = s ∧
      ((s = 0 ∧ x.sel = false) ∨ (s = 1 ∧ x.sel = true) ∨ (s = 2 ∧ x.sel = true ∧ bits .and .i64 x.p 8 = 0) ∨ (s = 3 ∧ x.sel = true ∧ bits .and .i64 x.p 8 ≠ 0 ∧ bits .and .i64 x.p 16 = 0) ∨
        (s = 4 ∧ x.sel = true ∧ bits .and .i64 x.p 8 ≠ 0 ∧ bits .and .i64 x.p 16 ≠ 0))) := by
  unfold stepErr stepAny
  by_cases hok : 0 ≤ x.now ∧ x.now ≤ 1099511627776 ∧ 0 ≤ x.p ∧ x.p ≤ 255
  · rw [if_pos hok, if_pos hok, stepS_next _ _ _ _ _ hs]
    right
    by_cases hn : nextS x.sel s f x.p x.now < 0
    · right
      rw [if_pos hn]
      refine ⟨rfl, rfl, rfl, ?_⟩
      obtain ⟨sel, p, now⟩ := x
      revert hn
      rcases (show s = 0 ∨ s = 1 ∨ s = 2 ∨ s = 3 ∨ s = 4 by omega) with rfl | rfl | rfl | rfl | rfl <;> cases sel <;> by_cases h8 : bits .and .i64 p 8 = 0 <;> by_cases h16 : bits .and .i64 p 16 = 0 <;>
        simp [nextS, hasB, h8, h16]
    · left
      rw [if_neg hn]
      exact ⟨rfl, rfl⟩
  · rw [if_neg hok, if_neg hok]
    exact .inl ⟨rfl, rfl⟩

set_option maxRecDepth 100000 in
set_option maxHeartbeats 4000000 in
theorem muxSends_any (A : Option Addr) (n cap : Nat) (L : Nat → St) (x : St) (w : World) (hl : StepsAt w w.heap.size A n L) (hx : x.ok) :
    Calls Try.prog 4 #[.slice A n cap, .agg #[.bool x.sel, .int .i64 x.p, .int .i64 x.now]] w fun e w' => e = .returned (.bool true) ∧ Below w.heap.size w w' := by
  have HL := hide hl; clear hl hx
  have HC := hide (sends_cases x)
  obtain ⟨sel, p, now⟩ := x
  go_enter Try.func4, Try.ntmps4
  go_wp2_with fail
  refine (awake_any _).mono ?_
  rintro e w1 ⟨rfl, hb1⟩
  have hz1 := hb1.size
  simp at hz1
  have hc1 : ∀ o, w1.cell? ⟨w.heap.size, o, none⟩ = (w.alloc (.cells #[.bool sel, .int .i64 p, .int .i64 now] 32)).cell? ⟨w.heap.size, o, none⟩ := fun o => hb1.cell (by simp)
  have hbb : Below w.heap.size w w1 := ((Below.refl w.heap.size w).alloc (Nat.le_refl _) _).trans (hb1.mono (by simp))
  go_wp2_with fail
  refine (made_any A n cap L w1 (HL.out.grow hbb (by omega))).mono ?_
  rintro e w2 ⟨g, s, f, rfl, hb2, hg, hm, -⟩
  have hs := hm.2.1
  have HM := hide hm; clear hm
  have hc2 : ∀ o, w2.cell? ⟨w.heap.size, o, none⟩ = (w.alloc (.cells #[.bool sel, .int .i64 p, .int .i64 now] 32)).cell? ⟨w.heap.size, o, none⟩ := fun o => (hb2.cell (by exact hz1)).trans (hc1 o)
  have hne : some w.heap.size ≠ some g := by intro e; injection e with e; omega
  have hz2 := hb2.size
  clear hc1
  go_wp2_with fail
  refine (step_all g sel s f p now _ HM.out).mono ?_
  rintro e w3 ⟨rfl, hgr, hm3⟩
  have hc3 : ∀ o v, (w.alloc (.cells #[.bool sel, .int .i64 p, .int .i64 now] 32)).cell? ⟨w.heap.size, o, none⟩ = some v → w3.cell? ⟨w.heap.size, o, none⟩ = some v := fun o v h => hgr.cell ((hc2 o).trans h) hne
  have d0 : w3.cell? ⟨w.heap.size, 0, none⟩ = some (.bool sel) := hc3 _ _ (by simp)
  have d1 : w3.cell? ⟨w.heap.size, 1, none⟩ = some (.int .i64 p) := hc3 _ _ (by simp)
  have d2 : w3.cell? ⟨w.heap.size, 2, none⟩ = some (.int .i64 now) := hc3 _ _ (by simp)
  have hb3 : Below w.heap.size w w3 := hbb.trans ((hb2.mono (by omega)).trans (below_of_grown hgr (by omega) (by omega)))
  have hst : w3.cell? ⟨g, 0, none⟩ = some (.int .i64 (stepAny sel s f p now).s) := cell_of_row w3 _ 0 _ 41 (0, 0) hm3.1
  have HB3 := hide hb3
  clear hc2 hc3 hgr hm3 hb3
  rcases HC.out s f hs with ⟨h1, h2⟩ | ⟨h1, h2⟩ | ⟨h1, h2, h3, h4⟩
  · rw [h1, h2]
    go_wp2
    go_ret
    exact ⟨rfl, HB3.out⟩
  · rw [h1, h2]
    go_wp2
    go_ret
    exact ⟨rfl, HB3.out⟩
  · rw [h1, h2]
    rw [h3] at hst
    rcases h4 with ⟨rfl, h5⟩ | ⟨rfl, h5⟩ | ⟨rfl, h5, h6⟩ | ⟨rfl, h5, h6, h7⟩ | ⟨rfl, h5, h6, h7⟩
    all_goals
      try simp only at h5
      subst h5
      go_wp2_with (go_at_call 13; refine (state_any _ _ _ hst).mono ?_; rintro e w4 ⟨rfl, rfl⟩)
      go_ret
      first | exact ⟨rfl, HB3.out⟩ | exact ⟨congrArg (fun b => Ending.returned (.bool b)) (show _ = true by simp [*]), HB3.out⟩

/-! ### The row -/
set_option maxRecDepth 100000 in
theorem muxSends_lifted (os : Os) (started : os.Started) (H : Type) (enc : TypeId × Value → H) :
    ReturnsInHanded {} Try.checked os 4 .any (Rows.muxSendsSpec.pre6 enc Try.prog Try.f4 Rows.muxSendsRow.domain false) (Rows.muxSendsSpec.post enc Try.prog Try.f4 false true false false) := by
  refine returnsInHanded_of_change (C := Try.checked) own started (by kernel_rfl) Try.func4
    (ChangeSpec.witness6 (enc := enc) (C := Try.checked) false ⟨#[], #[.slice none 0 0, .agg #[.bool false, .int .i64 0, .int .i64 0]], []⟩ 8 (by kernel_rfl) (by kernel_rfl) (by kernel_rfl) (by kernel_rfl)) ?_
  intro W base args ds gs before hval0 hW hcnd _
  have hval : ∀ (j : Nat) t v, Try.f4.params[j]? = some t → args[j]? = some v → Value.okWide Try.prog W .any base t v := hval0
  have hW' : DataW.Whole enc Try.prog Try.f4.params.toList Rows.muxSendsSpec.vars false W args.toList ds gs before := hW
  have hlen : args.toList.length = Try.f4.params.toList.length ∧ ds.length = Try.f4.params.toList.length := by
    obtain ⟨p, q, hA, _⟩ := hW'
    exact trodAll_len _ _ _ _ hA
  rw [Try.params4] at hval hlen
  obtain ⟨p0, p1, rfl⟩ := args2 args hlen.1
  obtain ⟨d0, d1, rfl⟩ := list2 ds hlen.2
  obtain rfl : gs = [] := by
    obtain ⟨p, q, _, hV, _⟩ := hW'
    exact (trodVars_none hV).1
  obtain ⟨_, _, hA, _⟩ := id hW'
  rw [Try.params4] at hA
  obtain ⟨_, _, hT0, hA, _⟩ := hA
  obtain ⟨_, _, hT1, hA, _⟩ := hA
  obtain ⟨A, n, cap, L, rfl, hl⟩ := open_steps (hval 0 22 p0 rfl rfl) hT0
  obtain ⟨x, rfl, hx⟩ := open_step (hval 1 32 p1 rfl rfl)
  refine (muxSends_any A n cap L x W hl hx).mono fun e W' ⟨he, hb⟩ => ?_
  subst he
  have hp : ∀ t ∈ Try.f4.params.toList, Try.prog.readableRec t = true ∧ t < Try.prog.types.size := by
    rw [Try.params4]
    intro t ht
    simp at ht
    rcases ht with rfl | rfl
    all_goals first | exact readable22 | exact readable32
  have hpost := law_post (enc := enc) (P := Try.prog) (f := Try.f4) (s := Rows.muxSendsSpec) (tb := 4) (W' := W') laidOut hW' rfl (by kernel_rfl) Try.underlying4 hp ⟨rfl, rfl, rfl⟩ hb
  exact ⟨_, rfl, hpost⟩

theorem muxSends_holds : Rows.MuxSendsSaid :=
  OpenClaim.holds_of_wide 4 Try.f4 rfl rfl rfl rfl rfl rfl rfl ⟨rfl, rfl, rfl, rfl, rfl⟩ rfl rfl rfl rfl rfl (by kernel_rfl) Try.func4 (by kernel_rfl)
    (of_decide_eq_true (by kernel_rfl)) (by unfold Func.isWrapper; first | (rw [if_pos (by decide +kernel)]; kernel_rfl) | (rw [if_neg (by decide +kernel)]; exact ⟨rfl, rfl⟩))
    (fun os started H enc _ => muxSends_lifted os started H enc)
#print axioms muxSends_holds
end Go.Proofs.Ytpkpgefmkamaiaa

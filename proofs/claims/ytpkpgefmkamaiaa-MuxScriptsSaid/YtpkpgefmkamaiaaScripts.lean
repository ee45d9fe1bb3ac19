/-
  Proved: MuxScripts: a link does any steps as the reference's; the law answers true at every list of steps.
  No condition.
-/
import Derived.Test.YtpkpgefmkamaiaaMuxH
namespace Go.Proofs.Ytpkpgefmkamaiaa
open Go.RowKit Go.ChangeShapes Go.WideShapes Go.ChangeAt
set_option linter.unusedVariables false

set_option maxRecDepth 100000 in
set_option maxHeartbeats 4000000 in
theorem muxScripts_any (A : Option Addr) (n cap : Nat) (L : Nat → St) (w : World) (hl : StepsAt w w.heap.size A n L) :
    Calls Try.prog 3 #[.slice A n cap] w fun e w' => e = .returned (.bool true) ∧ Below w.heap.size w w' := by
  have hn := hl.1
  have HL := hide hl; clear hl
  go_enter Try.func3, Try.ntmps3
  go_wp2_with fail
  refine (awake_any _).mono ?_
  rintro e w1 ⟨rfl, hb1⟩
  go_wp2_with fail
  refine (new_any _).mono ?_
  rintro e w2 ⟨rfl, hw2⟩
  have hb2 : Below w1.heap.size w1 w2 := hw2 ▸ (Below.refl _ _).alloc (Nat.le_refl _) _
  have hm2 : MuxAt w2 w1.heap.size 41 0 0 := ⟨hw2 ▸ heap_alloc_new _ _, by decide, by decide⟩
  have hz2 : w2.heap.size = w1.heap.size + 1 := by rw [← hw2]; simp
  have HZ2 := hide hz2
  clear hw2 hz2
  have HM2 := hide hm2; clear hm2
  go_wp2_with fail
  refine (refNew_any _).mono ?_
  rintro e w3 ⟨rfl, hw3⟩
  have hb3 : Below w2.heap.size w2 w3 := hw3 ▸ (Below.refl _ _).alloc (Nat.le_refl _) _
  have hr3 : MuxAt w3 w2.heap.size 35 0 0 := ⟨hw3 ▸ heap_alloc_new _ _, by decide, by decide⟩
  clear hw3
  have HR3 := hide hr3; clear hr3
  have hs1 := hb1.size
  have hs12 : w1.heap.size < w2.heap.size := by have := HZ2.out; omega
  have hm3 : Hid (MuxAt w3 w1.heap.size 41 0 0) := ⟨(hb3.block _ hs12).trans HM2.out.1, HM2.out.2⟩
  go_wp2_with fail
  go_loopw [6] (fun i wr => ∃ (k : Nat) (s f : Int), k ≤ n ∧ i = .int .i64 k ∧ Below w.heap.size w wr ∧ MuxAt wr w1.heap.size 41 s f ∧ MuxAt wr w2.heap.size 35 s f)
    (fun i _ => n - (intOf i).toNat)
  case atStart => exact ⟨0, 0, 0, by omega, rfl, hb1.trans ((hb2.mono hs1).trans (hb3.mono (by omega))), hm3.out, HR3.out⟩
  case round =>
    obtain ⟨k, s, f, hk, rfl, hbel, hm, hr⟩ := hrel
    have HM := hide hm; have HR := hide hr; clear hm hr
    by_cases hlt : k < n
    · by_cases hlt2 : k < 300
      · obtain ⟨b, o, hA, hbB, c1, c2, c3, -⟩ := (HL.out.below hbel).2 k hlt
        subst hA
        have hk0 : (0 : Int) ≤ (k : Int) := by omega
        have hk1 : (k : Int) < (n : Int) := by omega
        have HStep := hide (fun u hm => step_all w1.heap.size (L k).sel s f (L k).p (L k).now u hm)
        have HRef := hide (fun u hm => refStep_all w2.heap.size (L k).sel s f (L k).p (L k).now u hm)
        have hne1 : some b ≠ some w1.heap.size := by intro e; injection e with e; omega
        have hne2 : some b ≠ some w2.heap.size := by intro e; injection e with e; omega
        have hg2 : w2.heap.size < wr.heap.size := (Array.getElem?_eq_some_iff.1 HR.out.1).1
        go_wp2_with fail
        go_region_held3 (fun w' => w'.cell? ⟨b, o + k * 3, none⟩ = some (.bool (L k).sel) ∧ w'.cell? ⟨b, o + k * 3 + 1, none⟩ = some (.int .i64 (L k).p) ∧ w'.cell? ⟨b, o + k * 3 + 2, none⟩ = some (.int .i64 (L k).now))
          (first | go_keep | exact ⟨hgr.cell (by assumption) hne1, hgr.cell (by assumption) hne1, hgr.cell (by assumption) hne1⟩)
          ((go_at_call 11; refine (HStep.out _ (by exact HM.out)).mono ?_; rintro e w4 ⟨rfl, hgr, hm4⟩))
        have hz4 := hgr.size
        simp at hz4
        have hb4 : Below w.heap.size w w4 := hbel.drew.trans (below_of_grown hgr (by omega) (by simp; omega))
        have hr4 : Hid (MuxAt w4 w2.heap.size 35 s f) := ⟨(hgr.block _ (by simpa using hg2) (by intro e; injection e with e; omega)).trans HR.out.1, HR.out.2⟩
        have HM4 := hide hm4
        obtain ⟨b', o', hA', -, d1, d2, d3, -⟩ := (HL.out.below hb4).2 k hlt
        injection hA' with hA'
        injection hA' with e1 e2
        subst e1
        obtain rfl : o = o' := e2
        clear c1 c2 c3 hgr hm4
        rename_i hHeld
        clear hHeld
        go_wp2_with fail
        go_region_held3 (fun w' => w'.cell? ⟨b, o + k * 3, none⟩ = some (.bool (L k).sel) ∧ w'.cell? ⟨b, o + k * 3 + 1, none⟩ = some (.int .i64 (L k).p) ∧ w'.cell? ⟨b, o + k * 3 + 2, none⟩ = some (.int .i64 (L k).now))
          (first | go_keep | exact ⟨hgr.cell (by assumption) hne2, hgr.cell (by assumption) hne2, hgr.cell (by assumption) hne2⟩)
          ((go_at_call 12; refine (HRef.out _ (by exact hr4.out)).mono ?_; rintro e w5 ⟨rfl, hgr, hr5⟩))
        have hz5 := hgr.size
        simp at hz5
        have hb5 : Below w.heap.size w w5 := hb4.drew.trans (below_of_grown hgr (by omega) (by simp; omega))
        have hm5 : MuxAt w5 w1.heap.size 41 _ _ := ⟨(hgr.block _ (by simp; omega) (by intro e; injection e with e; omega)).trans HM4.out.1, HM4.out.2⟩
        have HM5 := hide hm5; have HR5 := hide hr5
        clear d1 d2 d3 hgr hm5 hr5
        rename_i hHeld
        clear hHeld
        generalize stepAny (L k).sel s f (L k).p (L k).now = S at *
        generalize stepErr (L k).p (L k).now = E at *
        go_wp2_with fail
        refine wp_region_class (by kernel_rfl) (by kernel_rfl) (fun C hC hS hN => ?_)
        have hx : ∀ (u : Of C), u.w.cell? ⟨w1.heap.size, 0, none⟩ = some (.int .i64 S.s) := fun u => ((hC _ u.ok).cell (by show w1.heap.size < _; omega)).trans (cell_of_row w5 _ 0 _ 41 (0, 0) HM5.out.1)
        have hy : ∀ (u : Of C), u.w.cell? ⟨w2.heap.size, 0, none⟩ = some (.int .i64 S.s) := fun u => ((hC _ u.ok).cell (by show w2.heap.size < _; omega)).trans (cell_of_row w5 _ 0 _ 35 (0, 0) HR5.out.1)
        have K13 := hide (fun (x : Of C) => (state_any _ S.s x.w (hx x)).mono fun e w' ⟨h1, h2⟩ => (⟨h1, h2 ▸ Below.refl _ _⟩ : e = Ending.returned (.int .i64 S.s) ∧ Below x.w.heap.size x.w w'))
        have K14 := hide (fun (x : Of C) => (bits_any _ S.s x.w (hx x) HM5.out.2.1).mono fun e w' ⟨h1, h2⟩ => (⟨h1, h2 ▸ Below.refl _ _⟩ : e = Ending.returned (.int .i64 (bitsS S.s)) ∧ Below x.w.heap.size x.w w'))
        have K15 := hide (fun (x : Of C) => (refBits_any _ S.s x.w (hy x) HM5.out.2.1).mono fun e w' ⟨h1, h2⟩ => (⟨h1, h2 ▸ Below.refl _ _⟩ : e = Ending.returned (.int .i64 (bitsS S.s)) ∧ Below x.w.heap.size x.w w'))
        have HS := hide hS; have HC := hide hC; clear hS hC
        repeat (go_big_quiet_step ((first
          | (go_at_call 13; exact Calls.of_class HS.out (K13.out _))
          | (go_at_call 14; exact Calls.of_class HS.out (K14.out _))
          | (go_at_call 15; exact Calls.of_class HS.out (K15.out _)))))
        refine wpQuiet_nil ?_
        intro u hu
        clear hx hy
        go_wp2_with fail
        go_roundw
        case rel => exact ⟨k + 1, S.s, S.f, by omega, by go_num, hb5.trans (hu.mono (by omega)), ⟨(hu.block _ (by omega)).trans HM5.out.1, HM5.out.2⟩, ⟨(hu.block _ (by omega)).trans HR5.out.1, HR5.out.2⟩⟩
        case measure => simp [intOf]; omega
      · go_wp2_with fail
        go_ret
        exact ⟨rfl, hbel⟩
    · go_wp2_with fail
      go_ret
      exact ⟨rfl, hbel⟩

/-! ### The row -/
set_option maxRecDepth 100000 in
theorem muxScripts_lifted (os : Os) (started : os.Started) (H : Type) (enc : TypeId × Value → H) :
    ReturnsInHanded {} Try.checked os 3 .any (Rows.muxScriptsSpec.pre6 enc Try.prog Try.f3 Rows.muxScriptsRow.domain false) (Rows.muxScriptsSpec.post enc Try.prog Try.f3 false true false false) := by
  refine returnsInHanded_of_change (C := Try.checked) own started (by kernel_rfl) Try.func3
    (ChangeSpec.witness6 (enc := enc) (C := Try.checked) false ⟨#[], #[.slice none 0 0], []⟩ 8 (by kernel_rfl) (by kernel_rfl) (by kernel_rfl) (by kernel_rfl)) ?_
  intro W base args ds gs before hval0 hW hcnd _
  have hval : ∀ (j : Nat) t v, Try.f3.params[j]? = some t → args[j]? = some v → Value.okWide Try.prog W .any base t v := hval0
  have hW' : DataW.Whole enc Try.prog Try.f3.params.toList Rows.muxScriptsSpec.vars false W args.toList ds gs before := hW
  have hlen : args.toList.length = Try.f3.params.toList.length ∧ ds.length = Try.f3.params.toList.length := by
    obtain ⟨p, q, hA, _⟩ := hW'
    exact trodAll_len _ _ _ _ hA
  rw [Try.params3] at hval hlen
  obtain ⟨p0, rfl⟩ := args1 args hlen.1
  obtain ⟨d0, rfl⟩ := list1 ds hlen.2
  obtain rfl : gs = [] := by
    obtain ⟨p, q, _, hV, _⟩ := hW'
    exact (trodVars_none hV).1
  obtain ⟨_, _, hA, _⟩ := id hW'
  rw [Try.params3] at hA
  obtain ⟨_, _, hT0, hA, _⟩ := hA
  obtain ⟨A, n, cap, L, rfl, hl⟩ := open_steps (hval 0 22 p0 rfl rfl) hT0
  refine (muxScripts_any A n cap L W hl).mono fun e W' ⟨he, hb⟩ => ?_
  subst he
  have hp : ∀ t ∈ Try.f3.params.toList, Try.prog.readableRec t = true ∧ t < Try.prog.types.size := by
    rw [Try.params3]
    intro t ht
    simp at ht
    rcases ht with rfl
    all_goals first | exact readable22
  have hpost := law_post (enc := enc) (P := Try.prog) (f := Try.f3) (s := Rows.muxScriptsSpec) (tb := 4) (W' := W') laidOut hW' rfl (by kernel_rfl) Try.underlying4 hp ⟨rfl, rfl, rfl⟩ hb
  exact ⟨_, rfl, hpost⟩

theorem muxScripts_holds : Rows.MuxScriptsSaid :=
  OpenClaim.holds_of_wide 3 Try.f3 rfl rfl rfl rfl rfl rfl rfl ⟨rfl, rfl, rfl, rfl, rfl⟩ rfl rfl rfl rfl rfl (by kernel_rfl) Try.func3 (by kernel_rfl)
    (of_decide_eq_true (by kernel_rfl)) (by unfold Func.isWrapper; first | (rw [if_pos (by decide +kernel)]; kernel_rfl) | (rw [if_neg (by decide +kernel)]; exact ⟨rfl, rfl⟩))
    (fun os started H enc _ => muxScripts_lifted os started H enc)
#print axioms muxScripts_holds
end Go.Proofs.Ytpkpgefmkamaiaa

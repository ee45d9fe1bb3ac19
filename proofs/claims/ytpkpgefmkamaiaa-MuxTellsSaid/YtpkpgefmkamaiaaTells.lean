/-
  Proved: MuxTells: what a link tells is what its state says, and a step changes just when the state does; the law answers true at every list of steps.
  No condition.
-/
import Derived.Test.YtpkpgefmkamaiaaSends
namespace Go.Proofs.Ytpkpgefmkamaiaa
open Go.RowKit Go.ChangeShapes Go.WideShapes Go.ChangeAt
set_option linter.unusedVariables false

theorem tells_did (sel : Bool) (s f p now : Int) (hs : 0 ≤ s ∧ s ≤ 4) : (stepAny sel s f p now).did = (s != (stepAny sel s f p now).s) := by
  unfold stepAny
  by_cases hok : 0 ≤ now ∧ now ≤ 1099511627776 ∧ 0 ≤ p ∧ p ≤ 255
  · rw [if_pos hok, stepS_next _ _ _ _ _ hs]
    by_cases hn : nextS sel s f p now < 0
    · rw [if_pos hn]
      simp
    · rw [if_neg hn]
      revert hn
      rcases (show s = 0 ∨ s = 1 ∨ s = 2 ∨ s = 3 ∨ s = 4 by omega) with rfl | rfl | rfl | rfl | rfl <;> cases sel <;> cases h8 : hasB p 8 <;> cases h16 : hasB p 16 <;> by_cases hl : 2 ≤ now - f <;>
        simp [nextS, h8, h16, hl]
  · rw [if_neg hok]
    simp

set_option maxRecDepth 100000 in
set_option maxHeartbeats 4000000 in
theorem muxTells_any (A : Option Addr) (n cap : Nat) (L : Nat → St) (w : World) (hl : StepsAt w w.heap.size A n L) :
    Calls Try.prog 7 #[.slice A n cap] w fun e w' => e = .returned (.bool true) ∧ Below w.heap.size w w' := by
  have hn := hl.1
  have HL := hide hl; clear hl
  go_enter Try.func7, Try.ntmps7
  go_wp2_with fail
  refine (awake_any _).mono ?_
  rintro e w1 ⟨rfl, hb1⟩
  go_wp2_with fail
  refine (new_any _).mono ?_
  rintro e w2 ⟨rfl, hw2⟩
  have hb2 : Below w1.heap.size w1 w2 := hw2 ▸ (Below.refl _ _).alloc (Nat.le_refl _) _
  have hm2 : MuxAt w2 w1.heap.size 41 0 0 := ⟨hw2 ▸ heap_alloc_new _ _, by decide, by decide⟩
  clear hw2
  have HM2 := hide hm2; clear hm2
  have hs1 := hb1.size
  go_wp2_with fail
  go_loopw [5] (fun i wr => ∃ (k : Nat) (s f : Int), k ≤ n ∧ i = .int .i64 k ∧ Below w.heap.size w wr ∧ MuxAt wr w1.heap.size 41 s f)
    (fun i _ => n - (intOf i).toNat)
  case atStart => exact ⟨0, 0, 0, by omega, rfl, hb1.trans (hb2.mono hs1), HM2.out⟩
  case round =>
    obtain ⟨k, s, f, hk, rfl, hbel, hm⟩ := hrel
    have hg1 : w1.heap.size < wr.heap.size := (Array.getElem?_eq_some_iff.1 hm.1).1
    have hs := hm.2.1
    have HM := hide hm; clear hm
    by_cases hlt : k < n
    · by_cases hlt2 : k < 200
      · obtain ⟨b, o, hA, hbB, c1, c2, c3, -⟩ := (HL.out.below hbel).2 k hlt
        subst hA
        have hk0 : (0 : Int) ≤ (k : Int) := by omega
        have hk1 : (k : Int) < (n : Int) := by omega
        have hst : wr.cell? ⟨w1.heap.size, 0, none⟩ = some (.int .i64 s) := cell_of_row wr _ 0 _ 41 (0, 0) HM.out.1
        have HStep := hide (fun u hm => step_all w1.heap.size (L k).sel s f (L k).p (L k).now u hm)
        have hne1 : some b ≠ some w1.heap.size := by intro e; injection e with e; omega
        go_wp2_with fail
        refine (state_any _ _ _ hst).mono ?_
        rintro e w3 ⟨rfl, rfl⟩
        go_wp2_with fail
        go_region_held3 (fun w' => w'.cell? ⟨b, o + k * 3, none⟩ = some (.bool (L k).sel) ∧ w'.cell? ⟨b, o + k * 3 + 1, none⟩ = some (.int .i64 (L k).p) ∧ w'.cell? ⟨b, o + k * 3 + 2, none⟩ = some (.int .i64 (L k).now))
          (first | go_keep | exact ⟨hgr.cell (by assumption) hne1, hgr.cell (by assumption) hne1, hgr.cell (by assumption) hne1⟩)
          ((go_at_call 11; refine (HStep.out _ (by exact HM.out)).mono ?_; rintro e w4 ⟨rfl, hgr, hm4⟩))
        have hz4 := hgr.size
        simp at hz4
        have hb4 : Below w.heap.size w w4 := hbel.drew.trans (below_of_grown hgr (by omega) (by simp; omega))
        clear c1 c2 c3 hgr hst
        rename_i hHeld
        clear hHeld
        have hS := tells_did (L k).sel s f (L k).p (L k).now hs
        generalize stepAny (L k).sel s f (L k).p (L k).now = S at *
        generalize stepErr (L k).p (L k).now = E at *
        obtain ⟨s', f', did⟩ := S
        simp only at hS hm4
        subst hS
        have hs' := hm4.2.1
        have hst : w4.cell? ⟨w1.heap.size, 0, none⟩ = some (.int .i64 s') := cell_of_row w4 _ 0 _ 41 (0, 0) hm4.1
        have HM4 := hide hm4
        clear hm4
        have HB4 := hide hb4
        clear hb4
        have HBits := hide (bits_any w1.heap.size s' w4 hst hs')
        by_cases hd : s = s'
        · subst hd
          rw [show (s != s) = false by simp]
          rcases (show s = 0 ∨ s = 1 ∨ s = 2 ∨ s = 3 ∨ s = 4 by omega) with rfl | rfl | rfl | rfl | rfl
          all_goals
            go_wp2_with (first
              | (go_at_call 13; refine (state_any _ _ _ hst).mono ?_; rintro e w5 ⟨rfl, rfl⟩)
              | (go_at_call 14; refine HBits.out.mono ?_; rintro e w5 ⟨rfl, rfl⟩))
            go_roundw
            case rel => exact ⟨k + 1, _, f', by omega, by go_num, HB4.out, HM4.out⟩
            case measure => simp [intOf]; omega
        · rw [show (s != s') = true by simpa using hd]
          have hd0 : (s != s') = true := by simpa using hd
          have hd1 : (s == s') = false := by simpa using hd
          rcases (show s' = 0 ∨ s' = 1 ∨ s' = 2 ∨ s' = 3 ∨ s' = 4 by omega) with rfl | rfl | rfl | rfl | rfl
          all_goals
            go_wp2_with (first
              | (go_at_call 13; refine (state_any _ _ _ hst).mono ?_; rintro e w5 ⟨rfl, rfl⟩)
              | (go_at_call 14; refine HBits.out.mono ?_; rintro e w5 ⟨rfl, rfl⟩))
            go_roundw
            case rel => exact ⟨k + 1, _, f', by omega, by go_num, HB4.out, HM4.out⟩
            case measure => simp [intOf]; omega
      · go_wp2_with fail
        go_ret
        exact ⟨rfl, hbel⟩
    · go_wp2_with fail
      go_ret
      exact ⟨rfl, hbel⟩

/-! ### The row -/
set_option maxRecDepth 100000 in
theorem muxTells_lifted (os : Os) (started : os.Started) (H : Type) (enc : TypeId × Value → H) :
    ReturnsInHanded {} Try.checked os 7 .any (Rows.muxTellsSpec.pre6 enc Try.prog Try.f7 Rows.muxTellsRow.domain false) (Rows.muxTellsSpec.post enc Try.prog Try.f7 false true false false) := by
  refine returnsInHanded_of_change (C := Try.checked) own started (by kernel_rfl) Try.func7
    (ChangeSpec.witness6 (enc := enc) (C := Try.checked) false ⟨#[], #[.slice none 0 0], []⟩ 8 (by kernel_rfl) (by kernel_rfl) (by kernel_rfl) (by kernel_rfl)) ?_
  intro W base args ds gs before hval0 hW hcnd _
  have hval : ∀ (j : Nat) t v, Try.f7.params[j]? = some t → args[j]? = some v → Value.okWide Try.prog W .any base t v := hval0
  have hW' : DataW.Whole enc Try.prog Try.f7.params.toList Rows.muxTellsSpec.vars false W args.toList ds gs before := hW
  have hlen : args.toList.length = Try.f7.params.toList.length ∧ ds.length = Try.f7.params.toList.length := by
    obtain ⟨p, q, hA, _⟩ := hW'
    exact trodAll_len _ _ _ _ hA
  rw [Try.params7] at hval hlen
  obtain ⟨p0, rfl⟩ := args1 args hlen.1
  obtain ⟨d0, rfl⟩ := list1 ds hlen.2
  obtain rfl : gs = [] := by
    obtain ⟨p, q, _, hV, _⟩ := hW'
    exact (trodVars_none hV).1
  obtain ⟨_, _, hA, _⟩ := id hW'
  rw [Try.params7] at hA
  obtain ⟨_, _, hT0, hA, _⟩ := hA
  obtain ⟨A, n, cap, L, rfl, hl⟩ := open_steps (hval 0 22 p0 rfl rfl) hT0
  refine (muxTells_any A n cap L W hl).mono fun e W' ⟨he, hb⟩ => ?_
  subst he
  have hp : ∀ t ∈ Try.f7.params.toList, Try.prog.readableRec t = true ∧ t < Try.prog.types.size := by
    rw [Try.params7]
    intro t ht
    simp at ht
    rcases ht with rfl
    all_goals first | exact readable22
  have hpost := law_post (enc := enc) (P := Try.prog) (f := Try.f7) (s := Rows.muxTellsSpec) (tb := 4) (W' := W') laidOut hW' rfl (by kernel_rfl) Try.underlying4 hp ⟨rfl, rfl, rfl⟩ hb
  exact ⟨_, rfl, hpost⟩

theorem muxTells_holds : Rows.MuxTellsSaid :=
  OpenClaim.holds_of_wide 7 Try.f7 rfl rfl rfl rfl rfl rfl rfl ⟨rfl, rfl, rfl, rfl, rfl⟩ rfl rfl rfl rfl rfl (by kernel_rfl) Try.func7 (by kernel_rfl)
    (of_decide_eq_true (by kernel_rfl)) (by unfold Func.isWrapper; first | (rw [if_pos (by decide +kernel)]; kernel_rfl) | (rw [if_neg (by decide +kernel)]; exact ⟨rfl, rfl⟩))
    (fun os started H enc _ => muxTells_lifted os started H enc)
#print axioms muxTells_holds
end Go.Proofs.Ytpkpgefmkamaiaa

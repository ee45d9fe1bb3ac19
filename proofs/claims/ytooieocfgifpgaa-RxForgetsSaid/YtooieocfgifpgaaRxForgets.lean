/-
  Proved: RxForgets: an end that hears nothing for long enough is Expired at the next Tick, Defaulted at the one behind, and knows nothing; where it is Down it stays so; the law answers true.
  No condition.
-/
import Derived.Test.YtooieocfgifpgaaRxH
namespace Go.Proofs.Ytooieocfgifpgaa
open Go.RowKit Go.ChangeShapes Go.WideShapes Go.ChangeAt
set_option linter.unusedVariables false

set_option maxRecDepth 100000 in
set_option maxHeartbeats 8000000 in
theorem rxForgets_any (A : Option Addr) (n cap : Nat) (L : Nat → SV) (now : Int) (w : World) (hl : Steps w w.heap.size A n L) (hnow : -9223372036854775808 ≤ now ∧ now ≤ 9223372036854775807) :
    Calls Try.prog 10 #[.slice A n cap, .int .i64 now] w fun e w' => e = .returned (.bool true) ∧ Below w.heap.size w w' := by
  have HL := hide hl
  clear hl
  go_enter Try.func10, Try.ntmps10
  go_wp2_with fail
  refine (rxAwake_any _).mono ?_
  rintro e w1 ⟨rfl, hb1⟩
  have HB1 := hide hb1; have hs1 := hb1.size; have HL1 := hide (HL.out.below hb1)
  clear hb1 HL
  go_wp2_with fail
  refine (made_any A n cap L w1 w.heap.size hs1 HL1.out).mono ?_
  rintro e w2 ⟨g, h, x, rfl, hg, hh, hne, hg2, hh2, hf2, ha2, hb2⟩
  have HG2 := hide hg2; have HH2 := hide hh2; have HB2 := hide (HB1.out.trans (hb2.mono hs1))
  have HW := hide (wait0 ha2)
  have hgw : w.heap.size ≤ g := by omega
  have HF := hide hf2
  obtain ⟨hfs, hff⟩ := hf2
  obtain ⟨hff1, hff2⟩ := hff
  clear hg2 hh2 hb2 ha2
  by_cases hlo : now < 0
  · go_wp2_with fail
    go_ret
    exact ⟨rfl, HB2.out⟩
  by_cases hhi : 549755813888 < now
  · go_wp2_with fail
    go_ret
    exact ⟨rfl, HB2.out⟩
  have c24 : w2.cell? ⟨h, 24, none⟩ = some (.int .i64 x.f) := HH2.out.facts.c24
  have hlo' : 0 ≤ now := by omega
  have hhi' : now ≤ 549755813888 := by omega
  have HI1 := hide (show inW 1099511627776 now = true from (inW_iff _ _).2 ⟨by omega, by omega⟩)
  have HI2 := hide (show inW 1099511627776 (now + 3) = true from (inW_iff _ _).2 ⟨by omega, by omega⟩)
  have HM1 := hide (show momE now = 0 by unfold momE; rw [HI1.out]; rfl)
  have HM2 := hide (show momE (now + 3) = 0 by unfold momE; rw [HI2.out]; rfl)
  rcases (show x.s = 0 ∨ x.s = 2 ∨ (x.s = 1 ∧ now - x.f < 3) ∨ (x.s = 1 ∧ ¬ now - x.f < 3) ∨ (x.s = 3 ∧ now - x.f < 3) ∨ (x.s = 3 ∧ ¬ now - x.f < 3) by omega) with hs | hs | ⟨hs, hlt⟩ | ⟨hs, hlt⟩ | ⟨hs, hlt⟩ | ⟨hs, hlt⟩
  · have HS := hide hs
    have HX1 := hide (tick_rest now (x := x) (.inl hs))
    have HO := HS
    have HF1 := HF
    have HTw := hide (show (x.tick (now + 3)).s = 0 by rw [tick_rest (now + 3) (x := x) (.inl hs)]; exact hs)
    clear hs hfs
    go_wp2_with fail
    refine (state_any g 81 x w2 HG2.out).mono ?_
    rintro e w' ⟨rfl, rfl⟩
    rw [HS.out]
    go_wp2_with fail
    refine (tick_any g x now w2 HF.out HG2.out).mono ?_
    rintro e w3 ⟨rfl, hg3, hf3⟩
    rw [HX1.out] at hg3
    rw [HM1.out]
    have HG3 := hide hg3; have HB3 := hide (HB2.out.trans (hf3.below hgw HB2.out.size))
    clear hg3 hf3 c24
    go_wp2_with fail
    refine (state_any g 81 x w3 HG3.out).mono ?_
    rintro e w' ⟨rfl, rfl⟩
    rw [show (x : ES).s = 0 from (by first | exact HO.out | rfl)]
    go_wp2_with fail
    refine (tick_any g x (now + 3) w3 HF1.out HG3.out).mono ?_
    rintro e w4 ⟨rfl, hg4, hf4⟩
    rw [HM2.out]
    have HG4 := hide hg4; have HB4 := hide (HB3.out.trans (hf4.below hgw HB3.out.size))
    clear hg4 hf4
    go_wp2_with fail
    refine (state_any g 81 _ w4 HG4.out).mono ?_
    rintro e w' ⟨rfl, rfl⟩
    rw [HTw.out]
    go_wp2_with fail
    go_ret
    exact ⟨rfl, HB4.out⟩
  · have HS := hide hs
    have HX1 := hide (tick_rest now (x := x) (.inr hs))
    have HO := HS
    have HF1 := HF
    have HTw := hide (show (x.tick (now + 3)).s = 2 by rw [tick_rest (now + 3) (x := x) (.inr hs)]; exact hs)
    clear hs hfs
    go_wp2_with fail
    refine (state_any g 81 x w2 HG2.out).mono ?_
    rintro e w' ⟨rfl, rfl⟩
    rw [HS.out]
    go_wp2_with fail
    refine (tick_any g x now w2 HF.out HG2.out).mono ?_
    rintro e w3 ⟨rfl, hg3, hf3⟩
    rw [HX1.out] at hg3
    rw [HM1.out]
    have HG3 := hide hg3; have HB3 := hide (HB2.out.trans (hf3.below hgw HB2.out.size))
    clear hg3 hf3 c24
    go_wp2_with fail
    refine (state_any g 81 x w3 HG3.out).mono ?_
    rintro e w' ⟨rfl, rfl⟩
    rw [show (x : ES).s = 2 from (by first | exact HO.out | rfl)]
    go_wp2_with fail
    refine (tick_any g x (now + 3) w3 HF1.out HG3.out).mono ?_
    rintro e w4 ⟨rfl, hg4, hf4⟩
    rw [HM2.out]
    have HG4 := hide hg4; have HB4 := hide (HB3.out.trans (hf4.below hgw HB3.out.size))
    clear hg4 hf4
    go_wp2_with fail
    refine (state_any g 81 _ w4 HG4.out).mono ?_
    rintro e w' ⟨rfl, rfl⟩
    rw [HTw.out]
    go_wp2_with fail
    go_ret
    exact ⟨rfl, HB4.out⟩
  · have HS := hide hs
    have HX1 := hide (tick_early (x := x) (now := now) (by rw [HW.out]; exact hlt))
    have HO := HS
    have HF1 := HF
    have hd : decide (now - x.f < 3) = true := by simpa using hlt
    clear hs hlt hfs
    go_wp2_with fail
    refine (state_any g 81 x w2 HG2.out).mono ?_
    rintro e w' ⟨rfl, rfl⟩
    rw [HS.out]
    go_wp2_with fail
    refine (tick_any g x now w2 HF.out HG2.out).mono ?_
    rintro e w3 ⟨rfl, hg3, hf3⟩
    rw [HX1.out] at hg3
    rw [HM1.out]
    have HG3 := hide hg3; have HB3 := hide (HB2.out.trans (hf3.below hgw HB2.out.size))
    clear hg3 hf3 c24
    go_wp2_with fail
    refine (state_any g 81 x w3 HG3.out).mono ?_
    rintro e w' ⟨rfl, rfl⟩
    rw [show (x : ES).s = 1 from (by first | exact HO.out | rfl)]
    go_wp2_with fail
    refine (tick_any g x (now + 3) w3 HF1.out HG3.out).mono ?_
    rintro e w4 ⟨rfl, hg4, hf4⟩
    rw [HM2.out]
    have HG4 := hide hg4; have HB4 := hide (HB3.out.trans (hf4.below hgw HB3.out.size))
    clear hg4 hf4
    go_wp2_with fail
    refine (state_any g 81 _ w4 HG4.out).mono ?_
    rintro e w' ⟨rfl, rfl⟩
    go_wp2_with fail
    go_ret
    exact ⟨rfl, HB4.out⟩
  · have HS := hide hs
    have HX1 := hide (tick_1 (x := x) (now := now) HI1.out (by rw [HW.out]; exact hlt) hs)
    have HO := hide (show ({ x with s := 2, p := Inf.zero } : ES).s = 2 from rfl)
    have HF1 := hide (show ({ x with s := 2, p := Inf.zero } : ES).fine from ⟨⟨by show (0 : Int) ≤ 2; decide, by show (2 : Int) ≤ 3; decide⟩, hff1, hff2⟩)
    have hx2 := tick_rest (x := { x with s := 2, p := Inf.zero }) (now + 3) (.inr rfl)
    have HTw := hide (show (({ x with s := 2, p := Inf.zero } : ES).tick (now + 3)).s = 2 by rw [hx2])
    have HP := hide (show eqI (({ x with s := 2, p := Inf.zero } : ES).tick (now + 3)).p Inf.zero = true by rw [hx2]; exact eqI_self _)
    have hd : decide (now - x.f < 3) = false := by simpa using hlt
    clear hx2
    clear hs hlt hfs
    go_wp2_with fail
    refine (state_any g 81 x w2 HG2.out).mono ?_
    rintro e w' ⟨rfl, rfl⟩
    rw [HS.out]
    go_wp2_with fail
    refine (tick_any g x now w2 HF.out HG2.out).mono ?_
    rintro e w3 ⟨rfl, hg3, hf3⟩
    rw [HX1.out] at hg3
    rw [HM1.out]
    have HG3 := hide hg3; have HB3 := hide (HB2.out.trans (hf3.below hgw HB2.out.size))
    clear hg3 hf3 c24
    go_wp2_with fail
    refine (state_any g 81 { x with s := 2, p := Inf.zero } w3 HG3.out).mono ?_
    rintro e w' ⟨rfl, rfl⟩
    rw [show ({ x with s := 2, p := Inf.zero } : ES).s = 2 from (by first | exact HO.out | rfl)]
    go_wp2_with fail
    refine (tick_any g { x with s := 2, p := Inf.zero } (now + 3) w3 HF1.out HG3.out).mono ?_
    rintro e w4 ⟨rfl, hg4, hf4⟩
    rw [HM2.out]
    have HG4 := hide hg4; have HB4 := hide (HB3.out.trans (hf4.below hgw HB3.out.size))
    clear hg4 hf4
    go_wp2_with fail
    refine (state_any g 81 _ w4 HG4.out).mono ?_
    rintro e w' ⟨rfl, rfl⟩
    rw [HTw.out]
    go_wp2_with fail
    refine (partner_any g _ w4 HG4.out).mono ?_
    rintro e w5 ⟨rfl, hb5⟩
    have HB5 := hide (HB4.out.trans (hb5.mono HB4.out.size))
    clear hb5
    go_wp2_with (refine wpList_eq25g rfl rfl (ES.p _) Inf.zero rfl rfl HP.out ?_)
    go_ret
    exact ⟨rfl, HB5.out⟩
  · have HS := hide hs
    have HX1 := hide (tick_early (x := x) (now := now) (by rw [HW.out]; exact hlt))
    have HO := HS
    have HF1 := HF
    have hd : decide (now - x.f < 3) = true := by simpa using hlt
    clear hs hlt hfs
    go_wp2_with fail
    refine (state_any g 81 x w2 HG2.out).mono ?_
    rintro e w' ⟨rfl, rfl⟩
    rw [HS.out]
    go_wp2_with fail
    refine (tick_any g x now w2 HF.out HG2.out).mono ?_
    rintro e w3 ⟨rfl, hg3, hf3⟩
    rw [HX1.out] at hg3
    rw [HM1.out]
    have HG3 := hide hg3; have HB3 := hide (HB2.out.trans (hf3.below hgw HB2.out.size))
    clear hg3 hf3 c24
    go_wp2_with fail
    refine (state_any g 81 x w3 HG3.out).mono ?_
    rintro e w' ⟨rfl, rfl⟩
    rw [show (x : ES).s = 3 from (by first | exact HO.out | rfl)]
    go_wp2_with fail
    refine (tick_any g x (now + 3) w3 HF1.out HG3.out).mono ?_
    rintro e w4 ⟨rfl, hg4, hf4⟩
    rw [HM2.out]
    have HG4 := hide hg4; have HB4 := hide (HB3.out.trans (hf4.below hgw HB3.out.size))
    clear hg4 hf4
    go_wp2_with fail
    refine (state_any g 81 _ w4 HG4.out).mono ?_
    rintro e w' ⟨rfl, rfl⟩
    go_wp2_with fail
    go_ret
    exact ⟨rfl, HB4.out⟩
  · have HS := hide hs
    have HX1 := hide (tick_3 (x := x) (now := now) HI1.out (by rw [HW.out]; exact hlt) hs)
    have HO := hide (show (x.expire now).s = 1 from rfl)
    have HF1 := hide (fine_expire (x := x) HI1.out)
    have hx2 := tick_1 (x := x.expire now) (now := now + 3) HI2.out (by have : (x.expire now).wait = 3 := rfl; rw [this]; show ¬ now + 3 - now < 3; omega) rfl
    have HTw := hide (show ((x.expire now).tick (now + 3)).s = 2 by rw [hx2])
    have HP := hide (show eqI ((x.expire now).tick (now + 3)).p Inf.zero = true by rw [hx2]; exact eqI_self _)
    have hd : decide (now - x.f < 3) = false := by simpa using hlt
    clear hx2
    clear hs hlt hfs
    go_wp2_with fail
    refine (state_any g 81 x w2 HG2.out).mono ?_
    rintro e w' ⟨rfl, rfl⟩
    rw [HS.out]
    go_wp2_with fail
    refine (tick_any g x now w2 HF.out HG2.out).mono ?_
    rintro e w3 ⟨rfl, hg3, hf3⟩
    rw [HX1.out] at hg3
    rw [HM1.out]
    have HG3 := hide hg3; have HB3 := hide (HB2.out.trans (hf3.below hgw HB2.out.size))
    clear hg3 hf3 c24
    go_wp2_with fail
    refine (state_any g 81 (x.expire now) w3 HG3.out).mono ?_
    rintro e w' ⟨rfl, rfl⟩
    rw [show ((x.expire now) : ES).s = 1 from (by first | exact HO.out | rfl)]
    go_wp2_with fail
    refine (tick_any g (x.expire now) (now + 3) w3 HF1.out HG3.out).mono ?_
    rintro e w4 ⟨rfl, hg4, hf4⟩
    rw [HM2.out]
    have HG4 := hide hg4; have HB4 := hide (HB3.out.trans (hf4.below hgw HB3.out.size))
    clear hg4 hf4
    go_wp2_with fail
    refine (state_any g 81 _ w4 HG4.out).mono ?_
    rintro e w' ⟨rfl, rfl⟩
    rw [HTw.out]
    go_wp2_with fail
    refine (partner_any g _ w4 HG4.out).mono ?_
    rintro e w5 ⟨rfl, hb5⟩
    have HB5 := hide (HB4.out.trans (hb5.mono HB4.out.size))
    clear hb5
    go_wp2_with (refine wpList_eq25g rfl rfl (ES.p _) Inf.zero rfl rfl HP.out ?_)
    go_ret
    exact ⟨rfl, HB5.out⟩

/-! ### The row -/
set_option maxRecDepth 100000 in
theorem rxForgets_lifted (os : Os) (started : os.Started) (H : Type) (enc : TypeId × Value → H) :
    ReturnsInHanded {} Try.checked os 10 .any (Rows.rxForgetsSpec.pre6 enc Try.prog Try.f10 Rows.rxForgetsRow.domain false) (Rows.rxForgetsSpec.post enc Try.prog Try.f10 false true false false) := by
  refine returnsInHanded_of_change (C := Try.checked) own started (by kernel_rfl) Try.func10
    (ChangeSpec.witness6 (enc := enc) (C := Try.checked) false ⟨#[], #[.slice none 0 0, .int .i64 0], []⟩ 8 (by kernel_rfl) (by kernel_rfl) (by kernel_rfl) (by kernel_rfl)) ?_
  intro W base args ds gs before hval0 hW hcnd _
  have hval : ∀ (j : Nat) t v, Try.f10.params[j]? = some t → args[j]? = some v → Value.okWide Try.prog W .any base t v := hval0
  have hW' : DataW.Whole enc Try.prog Try.f10.params.toList Rows.rxForgetsSpec.vars false W args.toList ds gs before := hW
  have hlen : args.toList.length = Try.f10.params.toList.length ∧ ds.length = Try.f10.params.toList.length := by
    obtain ⟨p, q, hA, _⟩ := hW'
    exact trodAll_len _ _ _ _ hA
  rw [Try.params10] at hval hlen
  obtain ⟨p0, p1, rfl⟩ := args2 args hlen.1
  obtain ⟨d0, d1, rfl⟩ := list2 ds hlen.2
  obtain rfl : gs = [] := by
    obtain ⟨p, q, _, hV, _⟩ := hW'
    exact (trodVars_none hV).1
  obtain ⟨_, _, hA, _⟩ := id hW'
  rw [Try.params10] at hA
  obtain ⟨_, _, hT0, hA, _⟩ := hA
  obtain ⟨_, _, hT1, hA, _⟩ := hA
  obtain ⟨A, n, cap, L, rfl, hl⟩ := open_rsteps (hval 0 41 p0 rfl rfl) hT0
  obtain ⟨now, rfl, hnow⟩ := open_i64 (hval 1 3 p1 rfl rfl)
  refine (rxForgets_any A n cap L now W hl hnow).mono fun e W' ⟨he, hb⟩ => ?_
  subst he
  have hp : ∀ t ∈ Try.f10.params.toList, Try.prog.readableRec t = true ∧ t < Try.prog.types.size := by
    rw [Try.params10]
    intro t ht
    simp at ht
    rcases ht with rfl | rfl
    all_goals first | exact readable3 | exact readable41
  have hpost := law_post (enc := enc) (P := Try.prog) (f := Try.f10) (s := Rows.rxForgetsSpec) (tb := 4) (W' := W') laidOut hW' rfl (by kernel_rfl) Try.underlying4 hp ⟨rfl, rfl, rfl⟩ hb
  exact ⟨_, rfl, hpost⟩

theorem rxForgets_holds : Rows.RxForgetsSaid :=
  OpenClaim.holds_of_wide 10 Try.f10 rfl rfl rfl rfl rfl rfl rfl ⟨rfl, rfl, rfl, rfl, rfl⟩ rfl rfl rfl rfl rfl (by kernel_rfl) Try.func10 (by kernel_rfl)
    (of_decide_eq_true (by kernel_rfl)) (by unfold Func.isWrapper; first | (rw [if_pos (by decide +kernel)]; kernel_rfl) | (rw [if_neg (by decide +kernel)]; exact ⟨rfl, rfl⟩))
    (fun os started H enc _ => rxForgets_lifted os started H enc)
#print axioms rxForgets_holds
end Go.Proofs.Ytooieocfgifpgaa

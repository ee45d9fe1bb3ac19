/-
  Proved: MuxCalm: told the same again and again a link comes to rest behind four changes at most; the law answers true.
  No condition.
-/
import Derived.Test.YtpkpgefmkamaiaaRises
namespace Go.Proofs.Ytpkpgefmkamaiaa
open Go.RowKit Go.ChangeShapes Go.WideShapes Go.ChangeAt
set_option linter.unusedVariables false

/-- How many changes are still to come. -/
def pot (sel : Bool) (p s : Int) : Int :=
  if sel = false then (if s = 0 then 0 else 1)
  else
    let r : Int := if hasB p 8 = false then 2 else if hasB p 16 = false then 3 else 4
    if s = 0 then r else if s = 1 then r - 1 else if s = 2 then r - 2 else if s = 3 then (if r = 3 then 0 else 1) else (if r = 4 then 0 else 1)

theorem pot_pos (sel : Bool) (p s : Int) (hs : 0 ≤ s ∧ s ≤ 4) : 0 ≤ pot sel p s ∧ pot sel p s ≤ 4 ∧ (s = 1 → pot sel p s ≤ 3) := by
  rcases (show s = 0 ∨ s = 1 ∨ s = 2 ∨ s = 3 ∨ s = 4 by omega) with rfl | rfl | rfl | rfl | rfl <;> cases sel <;> cases h8 : hasB p 8 <;> cases h16 : hasB p 16 <;> simp [pot, h8, h16]

theorem calm_step (sel : Bool) (s f p t : Int) (hs : 0 ≤ s ∧ s ≤ 4) :
    (¬ nextS sel s f p t < 0 → pot sel p (nextS sel s f p t) + 1 = pot sel p s ∧ (nextS sel s f p t = 1 → s = 0)) ∧ (nextS sel s f p t < 0 → pot sel p s = 0 ∨ (s = 1 ∧ t - f < 2)) ∧ (pot sel p s = 0 → nextS sel s f p t < 0) := by
  rcases (show s = 0 ∨ s = 1 ∨ s = 2 ∨ s = 3 ∨ s = 4 by omega) with rfl | rfl | rfl | rfl | rfl <;> cases sel <;> cases h8 : hasB p 8 <;> cases h16 : hasB p 16 <;> by_cases hl : 2 ≤ t - f <;>
    simp [pot, nextS, h8, h16, hl] <;> omega

/-- What holds ahead of round k. -/
def Calm (sel : Bool) (p now : Int) (k : Nat) (n s f : Int) : Prop :=
  (0 ≤ s ∧ s ≤ 4) ∧ 0 ≤ n ∧ n + pot sel p s ≤ 4 ∧ (pot sel p s ≤ 4 - k ∨ pot sel p s = 0) ∧ f ≤ now + 2 * k ∧ (1 ≤ k → s = 1 → f ≤ now + 2 * k - 2)

theorem calm_start (sel : Bool) (p now s f : Int) (hs : 0 ≤ s ∧ s ≤ 4) (hf : f ≤ now) : Calm sel p now 0 0 s f := by
  have h := pot_pos sel p s hs
  exact ⟨hs, by omega, by omega, by omega, by omega, by omega⟩

theorem calm_next (sel : Bool) (p now : Int) (k : Nat) (n s f : Int) (h : Calm sel p now k n s f) (hn : 0 ≤ now + 2 * k ∧ now + 2 * k ≤ 1099511627776) (hp : 0 ≤ p ∧ p ≤ 255) :
    Calm sel p now (k + 1) (if (stepAny sel s f p (now + 2 * k)).did then n + 1 else n) (stepAny sel s f p (now + 2 * k)).s (stepAny sel s f p (now + 2 * k)).f := by
  obtain ⟨hs, hn0, h1, h2, h3, h4⟩ := h
  rw [rise_any sel s f p _ hn hp hs]
  obtain ⟨c1, c2, c3⟩ := calm_step sel s f p (now + 2 * k) hs
  have hpos := pot_pos sel p s hs
  by_cases hx : nextS sel s f p (now + 2 * k) < 0
  · rw [if_pos hx]
    refine ⟨hs, hn0, h1, ?_, ?_, ?_⟩
    · show pot sel p s ≤ 4 - ((k + 1 : Nat) : Int) ∨ pot sel p s = 0
      rcases c2 hx with h0 | ⟨e1, e2⟩
      · exact .inr h0
      · by_cases hk : 1 ≤ k
        · have := h4 hk e1
          omega
        · have := hpos.2.2 e1
          omega
    · show f ≤ now + 2 * ((k + 1 : Nat) : Int)
      omega
    · intro _ e1
      show f ≤ now + 2 * ((k + 1 : Nat) : Int) - 2
      omega
  · rw [if_neg hx]
    obtain ⟨d1, d2⟩ := c1 hx
    have hok : 0 ≤ nextS sel s f p (now + 2 * k) ∧ nextS sel s f p (now + 2 * k) ≤ 4 := by
      refine ⟨by omega, ?_⟩
      unfold nextS
      split <;> (try split) <;> (try split) <;> (try split) <;> (try split) <;> (try split) <;> (try split) <;> omega
    refine ⟨hok, ?_, ?_, ?_, ?_, ?_⟩
    · show 0 ≤ n + 1
      omega
    · show n + 1 + _ ≤ 4
      simp only
      omega
    · have hpos' := pot_pos sel p _ hok
      simp only
      omega
    · show (if nextS sel s f p (now + 2 * k) = 1 then now + 2 * k else f) ≤ now + 2 * ((k + 1 : Nat) : Int)
      split <;> omega
    · intro _ e1
      show (if nextS sel s f p (now + 2 * k) = 1 then now + 2 * k else f) ≤ now + 2 * ((k + 1 : Nat) : Int) - 2
      split <;> omega

theorem calm_end (sel : Bool) (p now n s f t : Int) (h : Calm sel p now 8 n s f) (ht : 0 ≤ t ∧ t ≤ 1099511627776) (hp : 0 ≤ p ∧ p ≤ 255) : 0 ≤ n ∧ n ≤ 4 ∧ (stepAny sel s f p t).did = false := by
  obtain ⟨hs, hn0, h1, h2, h3, h4⟩ := h
  have hpos := pot_pos sel p s hs
  obtain ⟨c1, c2, c3⟩ := calm_step sel s f p t hs
  rw [rise_any sel s f p t ht hp hs, if_pos (c3 (by omega))]
  exact ⟨hn0, by omega, rfl⟩

theorem step_bad_did (sel : Bool) (s f p now : Int) (hp : ¬ (0 ≤ p ∧ p ≤ 255)) : stepErr p now = 1 ∧ (stepAny sel s f p now).did = false := by
  unfold stepErr stepAny
  rw [if_neg (by omega), if_neg (by omega)]
  exact ⟨rfl, rfl⟩

set_option maxRecDepth 100000 in
set_option maxHeartbeats 4000000 in
theorem muxCalm_any (A : Option Addr) (n cap : Nat) (L : Nat → St) (x : St) (w : World) (hl : StepsAt w w.heap.size A n L) (hx : x.ok) :
    Calls Try.prog 6 #[.slice A n cap, .agg #[.bool x.sel, .int .i64 x.p, .int .i64 x.now]] w fun e w' => e = .returned (.bool true) ∧ Below w.heap.size w w' := by
  have hn := hl.1
  have HL := hide hl; clear hl
  obtain ⟨sel, p, now⟩ := x
  have hx2 : -9223372036854775808 ≤ now ∧ now ≤ 9223372036854775807 := hx.2
  clear hx
  go_enter Try.func6, Try.ntmps6
  go_wp2_with fail
  refine (awake_any _).mono ?_
  rintro e w1 ⟨rfl, hb1⟩
  have hz1 := hb1.size
  simp at hz1
  have hc1 : ∀ o, w1.cell? ⟨w.heap.size, o, none⟩ = (w.alloc (.cells #[.bool sel, .int .i64 p, .int .i64 now] 32)).cell? ⟨w.heap.size, o, none⟩ := fun o => hb1.cell (by simp)
  have hbb : Below w.heap.size w w1 := ((Below.refl w.heap.size w).alloc (Nat.le_refl _) _).trans (hb1.mono (by simp))
  go_wp2_with fail
  refine (made_any A n cap L w1 (HL.out.grow hbb (by omega))).mono ?_
  rintro e w2 ⟨g, s, f, rfl, hb2, hg, hm, hmax⟩
  have HM := hide hm; clear hm
  have HF := hide (hmax now); clear hmax
  have hc2 : ∀ o, w2.cell? ⟨w.heap.size, o, none⟩ = (w.alloc (.cells #[.bool sel, .int .i64 p, .int .i64 now] 32)).cell? ⟨w.heap.size, o, none⟩ := fun o => (hb2.cell (by exact hz1)).trans (hc1 o)
  have hne : some w.heap.size ≠ some g := by intro e; injection e with e; omega
  have hg2 : g < w2.heap.size := (Array.getElem?_eq_some_iff.1 HM.out.1).1
  have hz2 := hb2.size
  have d0 : w2.cell? ⟨w.heap.size, 0, none⟩ = some (.bool sel) := (hc2 0).trans (by simp)
  have d1 : w2.cell? ⟨w.heap.size, 1, none⟩ = some (.int .i64 p) := (hc2 1).trans (by simp)
  have d2 : w2.cell? ⟨w.heap.size, 2, none⟩ = some (.int .i64 now) := (hc2 2).trans (by simp)
  have HBW2 := hide (hbb.trans (hb2.mono (by omega)))
  have D0 := hide d0; have D1 := hide d1; have D2 := hide d2
  clear hc1 hc2 hbb hb2 hb1 d0 d1
  by_cases r1 : now < 0
  · go_wp2_with fail
    go_ret
    exact ⟨rfl, HBW2.out⟩
  by_cases r2 : 549755813888 < now
  · go_wp2_with fail
    go_ret
    exact ⟨rfl, HBW2.out⟩
  clear d2
  have d2 : w2.cell? ⟨w.heap.size, 2, none⟩ = some (.int .i64 now) := D2.out
  go_wp2_with fail
  clear d2
  go_loopw [7] (fun i wr => ∃ (k : Nat), k ≤ n ∧ i = .int .i64 k ∧ Below w2.heap.size w2 wr ∧ ∀ j, j < k → (L j).now ≤ now)
    (fun i _ => n - (intOf i).toNat)
  case atStart => exact ⟨0, by omega, rfl, Below.refl _ _, fun j hj => by omega⟩
  case round =>
    obtain ⟨k, hk, rfl, hbel, hall⟩ := hrel
    have HA := hide hall; clear hall
    have hw : w.heap.size < w2.heap.size := by omega
    have d2 : wr.cell? ⟨w.heap.size, 2, none⟩ = some (.int .i64 now) := (hbel.cell (by exact hw)).trans D2.out
    by_cases hlt : k < n
    · have hB := HL.out.below (HBW2.out.trans (hbel.mono (by omega)))
      obtain ⟨b, o, hA, hbB, c1, c2, c3, -⟩ := hB.2 k hlt
      subst hA
      have hk0 : (0 : Int) ≤ (k : Int) := by omega
      have hk1 : (k : Int) < (n : Int) := by omega
      clear c1 c2 hB
      by_cases hgt : now < (L k).now
      · go_wp2_with fail
        go_region
        go_wp2_with fail
        go_ret
        exact ⟨rfl, HBW2.out.trans ((hbel.mono (by omega)).drew)⟩
      · go_wp2_with fail
        go_region
        go_wp2_with fail
        go_roundw
        case rel => exact ⟨k + 1, by omega, by go_num, hbel.drew, fun j hj => by
          rcases Nat.lt_succ_iff_lt_or_eq.1 hj with h | rfl
          · exact HA.out j h
          · omega⟩
        case measure => simp [intOf]; omega
    · have hfn : f ≤ now := HF.out (by omega) (fun i hi => HA.out i (by omega))
      have hmr : MuxAt wr g 41 s f := ⟨(hbel.block _ hg2).trans HM.out.1, HM.out.2⟩
      have hbr : Below w.heap.size w wr := HBW2.out.trans (hbel.mono (by omega))
      have d0 : wr.cell? ⟨w.heap.size, 0, none⟩ = some (.bool sel) := (hbel.cell (by exact hw)).trans D0.out
      have d1 : wr.cell? ⟨w.heap.size, 1, none⟩ = some (.int .i64 p) := (hbel.cell (by exact hw)).trans D1.out
      have HMR := hide hmr
      have hsR := hbel.size
      clear D0 D1 D2 HM HF hbel HA HL
      have DR : Hid (wr.cell? ⟨w.heap.size, 0, none⟩ = some (.bool sel) ∧ wr.cell? ⟨w.heap.size, 1, none⟩ = some (.int .i64 p) ∧ wr.cell? ⟨w.heap.size, 2, none⟩ = some (.int .i64 now)) := ⟨d0, d1, d2⟩
      have hCalm := hide (calm_start sel p now s f HMR.out.2.1 hfn)
      clear d0 d1 d2 hmr hfn
      go_wp2_with fail
      go_loopw [8, 9] (fun c i wq => ∃ (k : Nat) (m s f : Int), k ≤ 8 ∧ i = .int .i64 k ∧ c = .int .i64 m ∧ Calm sel p now k m s f ∧ (1 ≤ k → 0 ≤ p ∧ p ≤ 255) ∧ Below w.heap.size w wq ∧ MuxAt wq g 41 s f ∧ w2.heap.size ≤ wq.heap.size ∧
          wq.cell? ⟨w.heap.size, 0, none⟩ = some (.bool sel) ∧ wq.cell? ⟨w.heap.size, 1, none⟩ = some (.int .i64 p) ∧ wq.cell? ⟨w.heap.size, 2, none⟩ = some (.int .i64 now))
        (fun c i _ => 8 - (intOf i).toNat)
      case atStart => exact ⟨0, 0, s, f, by omega, rfl, rfl, hCalm.out, by omega, hbr, HMR.out, hsR, DR.out.1, DR.out.2.1, DR.out.2.2⟩
      case round =>
        obtain ⟨k, m, s, f, hk8, rfl, rfl, hcalm, hpk, hbq, hmq, hsq, d0, d1, d2⟩ := hrel
        have HQ := hide hmq; clear hmq
        have HC := hide hcalm
        have n0 : 0 ≤ now := by omega
        have n1 : now ≤ 549755813888 := by omega
        have hm0 : 0 ≤ m := hcalm.2.1
        have hm1 : m ≤ 4 := by have := hcalm.2.2.1; have := (pot_pos sel p s hcalm.1).1; omega
        clear hcalm r1 r2 DR HMR hCalm hbr
        have hB := hide hbq; clear hbq
        by_cases hlt : k < 8
        · by_cases hp : 0 ≤ p ∧ p ≤ 255
          · have hnext := hide (calm_next sel p now k m s f HC.out (by omega) hp)
            have hErr := rise_err p (now + 2 * k) (by omega) hp
            go_wp2_with fail
            refine (step_all g sel s f p (now + 2 * k) wr HQ.out).mono ?_
            rintro e w5 ⟨rfl, hgr, hm5⟩
            rw [hErr]
            have e0 : w5.cell? ⟨w.heap.size, 0, none⟩ = some (.bool sel) := hgr.cell d0 hne
            have e1 : w5.cell? ⟨w.heap.size, 1, none⟩ = some (.int .i64 p) := hgr.cell d1 hne
            have e2 : w5.cell? ⟨w.heap.size, 2, none⟩ = some (.int .i64 now) := hgr.cell d2 hne
            have hb5 := hide (hB.out.trans (below_of_grown hgr (by omega) (by omega)))
            have hz5 := hgr.size
            clear hgr d0 d1 d2 hErr
            have HM5 := hide hm5; clear hm5
            generalize stepAny sel s f p (now + 2 * k) = S at *
            obtain ⟨s', f', did⟩ := S
            cases did
            · go_wp2_with fail
              go_roundw
              case rel => exact ⟨k + 1, m, s', f', by omega, by go_num, rfl, hnext.out, fun _ => hp, hb5.out, HM5.out, by omega, e0, e1, e2⟩
              case measure => simp [intOf]; omega
            · go_wp2_with fail
              go_roundw
              case rel => exact ⟨k + 1, m + 1, s', f', by omega, by go_num, by go_num, hnext.out, fun _ => hp, hb5.out, HM5.out, by omega, e0, e1, e2⟩
              case measure => simp [intOf]; omega
          · obtain ⟨hE, hD⟩ := step_bad_did sel s f p (now + 2 * k) hp
            go_wp2_with fail
            refine (step_all g sel s f p (now + 2 * k) wr HQ.out).mono ?_
            rintro e w5 ⟨rfl, hgr, hm5⟩
            rw [hE, hD]
            have hb5 := hide (hB.out.trans (below_of_grown hgr (by omega) (by omega)))
            clear hgr hm5 hE hD
            go_wp2_with fail
            go_ret
            exact ⟨rfl, hb5.out⟩
        · obtain rfl : k = 8 := by omega
          have hp := hpk (by omega)
          have hEnd := calm_end sel p now m s f (now + 20) HC.out (by omega) hp
          have hErr := rise_err p (now + 20) (by omega) hp
          go_wp2_with fail
          refine (step_all g sel s f p (now + 20) wr HQ.out).mono ?_
          rintro e w5 ⟨rfl, hgr, hm5⟩
          rw [hErr, hEnd.2.2]
          have hb5 := hide (hB.out.trans (below_of_grown hgr (by omega) (by omega)))
          clear hgr hm5 hErr hEnd
          go_wp2_with fail
          go_ret
          exact ⟨rfl, hb5.out⟩

/-! ### The row -/
set_option maxRecDepth 100000 in
theorem muxCalm_lifted (os : Os) (started : os.Started) (H : Type) (enc : TypeId × Value → H) :
    ReturnsInHanded {} Try.checked os 6 .any (Rows.muxCalmSpec.pre6 enc Try.prog Try.f6 Rows.muxCalmRow.domain false) (Rows.muxCalmSpec.post enc Try.prog Try.f6 false true false false) := by
  refine returnsInHanded_of_change (C := Try.checked) own started (by kernel_rfl) Try.func6
    (ChangeSpec.witness6 (enc := enc) (C := Try.checked) false ⟨#[], #[.slice none 0 0, .agg #[.bool false, .int .i64 0, .int .i64 0]], []⟩ 8 (by kernel_rfl) (by kernel_rfl) (by kernel_rfl) (by kernel_rfl)) ?_
  intro W base args ds gs before hval0 hW hcnd _
  have hval : ∀ (j : Nat) t v, Try.f6.params[j]? = some t → args[j]? = some v → Value.okWide Try.prog W .any base t v := hval0
  have hW' : DataW.Whole enc Try.prog Try.f6.params.toList Rows.muxCalmSpec.vars false W args.toList ds gs before := hW
  have hlen : args.toList.length = Try.f6.params.toList.length ∧ ds.length = Try.f6.params.toList.length := by
    obtain ⟨p, q, hA, _⟩ := hW'
    exact trodAll_len _ _ _ _ hA
  rw [Try.params6] at hval hlen
  obtain ⟨p0, p1, rfl⟩ := args2 args hlen.1
  obtain ⟨d0, d1, rfl⟩ := list2 ds hlen.2
  obtain rfl : gs = [] := by
    obtain ⟨p, q, _, hV, _⟩ := hW'
    exact (trodVars_none hV).1
  obtain ⟨_, _, hA, _⟩ := id hW'
  rw [Try.params6] at hA
  obtain ⟨_, _, hT0, hA, _⟩ := hA
  obtain ⟨_, _, hT1, hA, _⟩ := hA
  obtain ⟨A, n, cap, L, rfl, hl⟩ := open_steps (hval 0 22 p0 rfl rfl) hT0
  obtain ⟨x, rfl, hx⟩ := open_step (hval 1 32 p1 rfl rfl)
  refine (muxCalm_any A n cap L x W hl hx).mono fun e W' ⟨he, hb⟩ => ?_
  subst he
  have hp : ∀ t ∈ Try.f6.params.toList, Try.prog.readableRec t = true ∧ t < Try.prog.types.size := by
    rw [Try.params6]
    intro t ht
    simp at ht
    rcases ht with rfl | rfl
    all_goals first | exact readable22 | exact readable32
  have hpost := law_post (enc := enc) (P := Try.prog) (f := Try.f6) (s := Rows.muxCalmSpec) (tb := 4) (W' := W') laidOut hW' rfl (by kernel_rfl) Try.underlying4 hp ⟨rfl, rfl, rfl⟩ hb
  exact ⟨_, rfl, hpost⟩

theorem muxCalm_holds : Rows.MuxCalmSaid :=
  OpenClaim.holds_of_wide 6 Try.f6 rfl rfl rfl rfl rfl rfl rfl ⟨rfl, rfl, rfl, rfl, rfl⟩ rfl rfl rfl rfl rfl (by kernel_rfl) Try.func6 (by kernel_rfl)
    (of_decide_eq_true (by kernel_rfl)) (by unfold Func.isWrapper; first | (rw [if_pos (by decide +kernel)]; kernel_rfl) | (rw [if_neg (by decide +kernel)]; exact ⟨rfl, rfl⟩))
    (fun os started H enc _ => muxCalm_lifted os started H enc)
#print axioms muxCalm_holds
end Go.Proofs.Ytpkpgefmkamaiaa

/-
  Proved: LaneScripts: a lane of any room does any steps as the reference's; the law answers true.
  No condition.
-/
import Derived.Test.YtekljcgljoianaaLaneK
namespace Go.Proofs.Ytekljcgljoianaa
open Go.RowKit Go.ChangeShapes Go.WideShapes Go.ChangeAt
set_option linter.unusedVariables false

set_option maxRecDepth 100000 in
set_option maxHeartbeats 4000000 in
theorem laneScripts_any (room : Int) (A : Option Addr) (n cap : Nat) (L : Nat → LSt) (w : World) (hr : -9223372036854775808 ≤ room ∧ room ≤ 9223372036854775807) (hl : LStepsAt w w.heap.size A n L) :
    Calls Try.prog 6 #[.int .i64 room, .slice A n cap] w fun e w' => e = .returned (.bool true) ∧ Below w.heap.size w w' := by
  have hn := hl.1
  have HL := hide hl; clear hl
  go_enter Try.func6, Try.ntmps6
  go_wp2_with fail
  refine (awake_any _).mono ?_
  rintro e w1 ⟨rfl, hb1⟩
  have hs1 := hb1.size
  go_wp2_with fail
  refine (laneNew_any (X3 w1.heap.size) room w1).mono ?_
  rintro e w2 (⟨r1, r2, r, rfl, rfl, hb2, hz2, hl2⟩ | ⟨hbad, rfl, rfl⟩)
  rotate_left
  · go_wp2_with fail
    refine (refNew_any (X3 w1.heap.size) room w1).mono ?_
    rintro e w3 (⟨r1, r2, -⟩ | ⟨-, rfl, rfl⟩)
    · omega
    go_wp2_with fail
    go_loopw [10] (fun i wr => wr = w1 ∧ ∃ k : Nat, k ≤ n ∧ i = .int .i64 k) (fun i _ => n - (intOf i).toNat)
    case atStart => exact ⟨rfl, 0, by omega, rfl⟩
    case round =>
      obtain ⟨rfl, k, hk, rfl⟩ := hrel
      by_cases hlt : k < n
      · by_cases hlt2 : k < 200
        · go_wp2_with fail
          go_ret
          exact ⟨rfl, hb1⟩
        · go_wp2_with fail
          go_ret
          exact ⟨rfl, hb1⟩
      · go_wp2_with fail
        go_ret
        exact ⟨rfl, hb1⟩
  have HL2 := hide hl2; clear hl2
  have HZ2 := hide hz2; clear hz2
  go_wp2_with fail
  refine (refNew_any (X3 w1.heap.size) r w2).mono ?_
  rintro e w3 (⟨-, -, r', hrr, rfl, hb3, hz3, hr3⟩ | ⟨hbad, -, -⟩)
  rotate_left
  · omega
  obtain rfl : r = r' := by omega
  rw [HZ2.out] at hr3
  have HBoth := hide (mkBoth HL2.out hb3 hr3 (by omega) (by omega))
  have hbw3 := hide (hb1.trans ((hb2.mono hs1).trans (hb3.mono (by have := HZ2.out; omega))))
  have ez2 : w2.heap.size = w1.heap.size + 2 := HZ2.out
  rw [ez2]
  clear hb1 hb2 hb3 hz3 hr3 hrr ez2
  go_wp2_with fail
  go_loopw [10] (fun i wr => ∃ (k : Nat) (x : LS), k ≤ n ∧ k ≤ 200 ∧ i = .int .i64 k ∧ Below w.heap.size w wr ∧ Both wr (X3 w1.heap.size) (w1.heap.size + 1) w1.heap.size (w1.heap.size + 2) x ∧ x.asked ≤ k)
    (fun i _ => n - (intOf i).toNat)
  case atStart => exact ⟨0, LS.new r, by omega, by omega, rfl, hbw3.out, HBoth.out, by simp [LS.new]⟩
  case round =>
    obtain ⟨k, x, hk, hk200, rfl, hbel, hboth, hask⟩ := hrel
    have HB := hide hboth; clear hboth
    by_cases hlt : k < n
    · by_cases hlt2 : k < 200
      · obtain ⟨b, o, hA, hbB, c1, hd, hlen, A', c', c2, hrow⟩ := (HL.out.below hbel).2 k hlt
        subst hA
        have hk0 : (0 : Int) ≤ (k : Int) := by omega
        have hk1 : (k : Int) < (n : Int) := by omega
        have HRow := hide (hrow.weaken (Y := X3 w1.heap.size) (fun j hj => X3_from hs1 hj))
        clear hrow hd
        go_wp2_with fail
        refine (step_any (X3 w1.heap.size) (w1.heap.size + 1) w1.heap.size (w1.heap.size + 2) x (L k).d A' (L k).b.length c' (L k).b wr HB.out (by omega) HRow.out hlen).mono ?_
        rintro e w4 ⟨rfl, hc4, hb4⟩
        have hfs := HB.out.fine.step (by omega) (L k).d (L k).b
        generalize x.step (L k).d (L k).b = y at *
        have hbel4 := hide (hbel.trans (hc4.toBelow (B := w.heap.size) (fun j hj => X3_from hs1 hj) hbel.size))
        have HB4 := hide hb4
        obtain ⟨-, q3, q4, q5, q6, -⟩ := hb4.lane.cells
        clear hc4 hb4 c1 c2
        go_wp2_with fail
        refine (counts_any _ _ _ _ _ q4 q5 q6).mono ?_
        rintro e w5 ⟨rfl, hb5⟩
        have hbel5 := hide (hbel4.out.trans (hb5.mono hbel4.out.size))
        have HB5 := hide (HB4.out.below hb5)
        clear q3 q4 q5 q6 hb5
        obtain ⟨A5, cap5, -, s0, s1, s2, s3, s4, s5, -⟩ := HB5.out.ref.cells
        obtain ⟨t2, t3, t4, t5, t6, -⟩ := HB5.out.lane.cells
        have hsl := HB5.out.lane.size
        have hsr := HB5.out.ref.size
        go_wp2_with fail
        refine wp_region_class (by kernel_rfl) (by kernel_rfl) (fun C hC hS hN => ?_)
        have g1 : ∀ (u : Of C), u.w.cell? ⟨w1.heap.size + 2, 1, none⟩ = some (.bool y.cut) := fun u => ((hC _ u.ok).cell (by exact hsr)).trans s1
        have g2 : ∀ (u : Of C), u.w.cell? ⟨w1.heap.size + 2, 2, none⟩ = some (.slice A5 y.Q.length cap5) := fun u => ((hC _ u.ok).cell (by exact hsr)).trans s2
        have g3 : ∀ (u : Of C), u.w.cell? ⟨w1.heap.size + 2, 3, none⟩ = some (.int .i64 y.asked) := fun u => ((hC _ u.ok).cell (by exact hsr)).trans s3
        have g4 : ∀ (u : Of C), u.w.cell? ⟨w1.heap.size + 2, 4, none⟩ = some (.int .i64 y.got) := fun u => ((hC _ u.ok).cell (by exact hsr)).trans s4
        have g5 : ∀ (u : Of C), u.w.cell? ⟨w1.heap.size + 2, 5, none⟩ = some (.int .i64 y.lost) := fun u => ((hC _ u.ok).cell (by exact hsr)).trans s5
        have K10 := hide (fun (x : Of C) => (len_any (w1.heap.size + 1) y.Q.length x.w (((hC _ x.ok).cell (by exact hsl.1)).trans t2)).mono fun e w' ⟨h1, h2⟩ => (⟨h1, h2 ▸ Below.refl _ _⟩ : e = Ending.returned (.int .i64 y.Q.length) ∧ Below x.w.heap.size x.w w'))
        have K19 := hide (fun (x : Of C) => (down_any (w1.heap.size + 1) y.cut x.w (((hC _ x.ok).cell (by exact hsl.1)).trans t3)).mono fun e w' ⟨h1, h2⟩ => (⟨h1, h2 ▸ Below.refl _ _⟩ : e = Ending.returned (.bool y.cut) ∧ Below x.w.heap.size x.w w'))
        have HS := hide hS; have HC := hide hC; clear hS hC s0 s1 s2 s3 s4 s5 t2 t3 t4 t5 t6
        repeat (go_big_quiet_step ((first
          | (go_at_call 10; exact Calls.of_class HS.out (K10.out _))
          | (go_at_call 19; exact Calls.of_class HS.out (K19.out _)))))
        refine wpQuiet_nil ?_
        intro u hu
        clear g1 g2 g3 g4 g5
        go_wp2_with fail
        go_roundw
        case rel => exact ⟨k + 1, y, by omega, by omega, by go_num, hbel5.out.trans (hu.mono hbel5.out.size), HB5.out.below hu, by have := hfs.2.1; omega⟩
        case measure => simp [intOf]; omega
      · go_wp2_with fail
        go_ret
        exact ⟨rfl, hbel⟩
    · go_wp2_with fail
      go_ret
      exact ⟨rfl, hbel⟩

/-! ### The row -/
set_option maxRecDepth 100000 in
theorem laneScripts_lifted (os : Os) (started : os.Started) (H : Type) (enc : TypeId × Value → H) :
    ReturnsInHanded {} Try.checked os 6 .any (Rows.laneScriptsSpec.pre6 enc Try.prog Try.f6 Rows.laneScriptsRow.domain false) (Rows.laneScriptsSpec.post enc Try.prog Try.f6 false true false false) := by
  refine returnsInHanded_of_change_sized (C := Try.checked) own started (by kernel_rfl) Try.func6
    (ChangeSpec.witness6 (enc := enc) (C := Try.checked) false ⟨#[], #[.int .i64 0, .slice none 0 0], []⟩ 8 (by kernel_rfl) (by kernel_rfl) (by kernel_rfl) (by kernel_rfl)) ?_
  intro W base args ds gs before hval0 hW hcnd hsz0 _
  have hval : ∀ (j : Nat) t v, Try.f6.params[j]? = some t → args[j]? = some v → Value.okWide Try.prog W .any base t v := hval0
  have hW' : DataW.Whole enc Try.prog Try.f6.params.toList Rows.laneScriptsSpec.vars false W args.toList ds gs before := hW
  have hlen : args.toList.length = Try.f6.params.toList.length ∧ ds.length = Try.f6.params.toList.length := by
    obtain ⟨p, q, hA, _⟩ := hW'
    exact trodAll_len _ _ _ _ hA
  have hsz : (DataW.weightsEach Try.prog (Try.f6.params.toList ++ Rows.laneScriptsSpec.plain.varTypes Try.prog) (ds ++ gs)).all (· ≤ reachBytes) = true := hsz0
  rw [Try.params6] at hval hlen hsz
  obtain ⟨p0, p1, rfl⟩ := args2 args hlen.1
  obtain ⟨d0, d1, rfl⟩ := list2 ds hlen.2
  obtain rfl : gs = [] := by
    obtain ⟨p, q, _, hV, _⟩ := hW'
    exact (trodVars_none hV).1
  obtain ⟨_, _, hA, _⟩ := id hW'
  rw [Try.params6] at hA
  obtain ⟨_, _, hT0, hA, _⟩ := hA
  obtain ⟨_, _, hT1, hA, _⟩ := hA
  obtain ⟨room, rfl, hroom⟩ := open_i64 (hval 0 3 p0 rfl rfl)
  obtain ⟨A, n, cap, L, rfl, hl⟩ := open_lsteps (j := 1) (hval 1 36 p1 rfl rfl) hT1 hsz rfl rfl
  refine (laneScripts_any room A n cap L W hroom hl).mono fun e W' ⟨he, hb⟩ => ?_
  subst he
  have hp : ∀ t ∈ Try.f6.params.toList, Try.prog.readableRec t = true ∧ t < Try.prog.types.size := by
    rw [Try.params6]
    intro t ht
    simp at ht
    rcases ht with rfl | rfl
    all_goals first | exact readable3 | exact readable36
  have hpost := law_post (enc := enc) (P := Try.prog) (f := Try.f6) (s := Rows.laneScriptsSpec) (tb := 4) (W' := W') laidOut hW' rfl (by kernel_rfl) Try.underlying4 hp ⟨rfl, rfl, rfl⟩ hb
  exact ⟨_, rfl, hpost⟩

theorem laneScripts_holds : Rows.LaneScriptsSaid :=
  OpenClaim.holds_of_wide 6 Try.f6 rfl rfl rfl rfl rfl rfl rfl ⟨rfl, rfl, rfl, rfl, rfl⟩ rfl rfl rfl rfl rfl (by kernel_rfl) Try.func6 (by kernel_rfl)
    (of_decide_eq_true (by kernel_rfl)) (by unfold Func.isWrapper; first | (rw [if_pos (by decide +kernel)]; kernel_rfl) | (rw [if_neg (by decide +kernel)]; exact ⟨rfl, rfl⟩))
    (fun os started H enc _ => laneScripts_lifted os started H enc)
#print axioms laneScripts_holds
end Go.Proofs.Ytekljcgljoianaa

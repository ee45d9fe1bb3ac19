/-
  Proved: LaneSums: what was asked to be put is got, lost, or on the way; a lane that is cut has nothing on the way; the law answers true.
  No condition.
-/
import Derived.Test.YtekljcgljoianaaLaneK
namespace Go.Proofs.Ytekljcgljoianaa
open Go.RowKit Go.ChangeShapes Go.WideShapes Go.ChangeAt
set_option linter.unusedVariables false

theorem cut_step {x : LS} (h : x.cut = true → x.Q = []) (d : Int) (b : List UInt8) : (x.step d b).cut = true → (x.step d b).Q = [] := by
  obtain ⟨room, cut, asked, got, lost, Q⟩ := x
  simp only at h
  unfold LS.step
  split
  · unfold LS.put
    cases cut
    · intro hc; simp at hc; split at hc <;> simp at hc
    · intro _; simp; exact h rfl
  · split
    · unfold LS.get
      cases Q
      · exact fun _ => rfl
      · intro hc; have := h hc; cases this
    · split
      · unfold LS.lose
        cases Q
        · exact fun _ => rfl
        · intro hc; have := h hc; cases this
      · split
        · exact fun _ => rfl
        · intro hc; cases hc

set_option maxRecDepth 100000 in
set_option maxHeartbeats 4000000 in
theorem laneSums_any (room : Int) (A : Option Addr) (n cap : Nat) (L : Nat → LSt) (w : World) (hr : -9223372036854775808 ≤ room ∧ room ≤ 9223372036854775807) (hl : LStepsAt w w.heap.size A n L) :
    Calls Try.prog 7 #[.int .i64 room, .slice A n cap] w fun e w' => e = .returned (.bool true) ∧ Below w.heap.size w w' := by
  have hn := hl.1
  have HL := hide hl; clear hl
  go_enter Try.func7, Try.ntmps7
  go_wp2_with fail
  refine (awake_any _).mono ?_
  rintro e w1 ⟨rfl, hb1⟩
  have hs1 := hb1.size
  go_wp2_with fail
  refine (laneNew_any (X3 w1.heap.size) room w1).mono ?_
  rintro e w2 (⟨r1, r2, r, rfl, rfl, hb2, hz2, hl2⟩ | ⟨hbad, rfl, rfl⟩)
  rotate_left
  · go_wp2_with fail
    go_ret
    exact ⟨rfl, hb1⟩
  have HL2 := hide hl2; clear hl2
  have HZ2 := hide hz2; clear hz2
  go_wp2_with fail
  refine (refNew_any (X3 w1.heap.size) r w2).mono ?_
  rintro e w3 (⟨-, -, r', hrr, rfl, hb3, hz3, hr3⟩ | ⟨hbad, -, -⟩)
  rotate_left
  · omega
  obtain rfl : r = r' := by omega
  rw [HZ2.out] at hr3
  have HBoth := hide (mkBoth HL2.out hb3 hr3 (by omega) (by omega))
  have hbw3 := hide (hb1.trans ((hb2.mono hs1).trans (hb3.mono (by have := HZ2.out; omega))))
  have ez2 : w2.heap.size = w1.heap.size + 2 := HZ2.out
  rw [ez2]
  clear hb1 hb2 hb3 hz3 hr3 hrr ez2
  go_wp2_with fail
  go_loopw [10] (fun i wr => ∃ (k : Nat) (x : LS), k ≤ n ∧ k ≤ 200 ∧ i = .int .i64 k ∧ Below w.heap.size w wr ∧ Both wr (X3 w1.heap.size) (w1.heap.size + 1) w1.heap.size (w1.heap.size + 2) x ∧ x.asked ≤ k ∧ x.room = r ∧ (x.cut = true → x.Q = []))
    (fun i _ => n - (intOf i).toNat)
  case atStart => exact ⟨0, LS.new r, by omega, by omega, rfl, hbw3.out, HBoth.out, by simp [LS.new], rfl, by simp [LS.new]⟩
  case round =>
    obtain ⟨k, x, hk, hk200, rfl, hbel, hboth, hask, hroom, hcut⟩ := hrel
    have HB := hide hboth; clear hboth
    by_cases hlt : k < n
    · by_cases hlt2 : k < 200
      · obtain ⟨b, o, hA, hbB, c1, hd, hlen, A', c', c2, hrow⟩ := (HL.out.below hbel).2 k hlt
        subst hA
        have hk0 : (0 : Int) ≤ (k : Int) := by omega
        have hk1 : (k : Int) < (n : Int) := by omega
        have HRow := hide (hrow.weaken (Y := X3 w1.heap.size) (fun j hj => X3_from hs1 hj))
        clear hrow hd
        go_wp2_with fail
        refine (step_any (X3 w1.heap.size) (w1.heap.size + 1) w1.heap.size (w1.heap.size + 2) x (L k).d A' (L k).b.length c' (L k).b wr HB.out (by omega) HRow.out hlen).mono ?_
        rintro e w4 ⟨rfl, hc4, hb4⟩
        have hfs := HB.out.fine.step (by omega) (L k).d (L k).b
        have hcut' := cut_step hcut (L k).d (L k).b
        generalize x.step (L k).d (L k).b = y at *
        obtain ⟨room', cut', asked', got', lost', Q'⟩ := y
        obtain ⟨⟨-, b1, b2, b3, b4, b5⟩, b6, b7⟩ := hfs
        simp only at b1 b2 b3 b4 b5 b6 b7 hcut'
        subst b2
        have b8 : room' = r := b7.trans hroom
        subst b8
        clear b7 hroom hcut
        have hbel4 := hide (hbel.trans (hc4.toBelow (B := w.heap.size) (fun j hj => X3_from hs1 hj) hbel.size))
        have HB4 := hide hb4
        have q4 : w4.cell? ⟨w1.heap.size + 1, 4, none⟩ = some (.int .i64 (got' + lost' + Q'.length)) := hb4.lane.cells.2.2.1
        have q5 : w4.cell? ⟨w1.heap.size + 1, 5, none⟩ = some (.int .i64 got') := hb4.lane.cells.2.2.2.1
        have q6 : w4.cell? ⟨w1.heap.size + 1, 6, none⟩ = some (.int .i64 lost') := hb4.lane.cells.2.2.2.2.1
        clear hc4 hb4 c1 c2
        go_wp2_with fail
        refine (counts_any _ _ _ _ _ q4 q5 q6).mono ?_
        rintro e w5 ⟨rfl, hb5⟩
        have hbel5 := hide (hbel4.out.trans (hb5.mono hbel4.out.size))
        have HB5 := hide (HB4.out.below hb5)
        clear q4 q5 q6 hb5
        have t2 : w5.cell? ⟨w1.heap.size + 1, 2, none⟩ = some (.int .i64 Q'.length) := HB5.out.lane.cells.1
        have t3 : w5.cell? ⟨w1.heap.size + 1, 3, none⟩ = some (.bool cut') := HB5.out.lane.cells.2.1
        have b9 : got' + lost' + Q'.length ≤ ((k + 1 : Nat) : Int) := by omega
        have HCut := hide hcut'
        have c1 : got' + lost' ≤ 201 := by omega
        have c2 : got' + lost' + Q'.length ≤ 201 := by omega
        have c3 : ¬ (room' : Int) < (Q'.length : Int) := by omega
        clear b6 hask hcut' b5
        cases cut'
        · go_wp2_with (first
            | (go_at_call 10; refine (len_any _ _ _ t2).mono ?_; rintro e w6 ⟨rfl, rfl⟩)
            | (go_at_call 19; refine (down_any _ _ _ t3).mono ?_; rintro e w6 ⟨rfl, rfl⟩))
          go_roundw
          case rel => exact ⟨k + 1, _, by omega, by omega, by go_num, hbel5.out, HB5.out, b9, rfl, HCut.out⟩
          case measure => simp [intOf]; omega
        · obtain rfl : Q' = [] := HCut.out rfl
          go_wp2_with (first
            | (go_at_call 10; refine (len_any _ _ _ t2).mono ?_; rintro e w6 ⟨rfl, rfl⟩)
            | (go_at_call 19; refine (down_any _ _ _ t3).mono ?_; rintro e w6 ⟨rfl, rfl⟩))
          go_roundw
          case rel => exact ⟨k + 1, _, by omega, by omega, by go_num, hbel5.out, HB5.out, b9, rfl, fun _ => rfl⟩
          case measure => simp [intOf]; omega
      · go_wp2_with fail
        go_ret
        exact ⟨rfl, hbel⟩
    · go_wp2_with fail
      go_ret
      exact ⟨rfl, hbel⟩

/-! ### The row -/
set_option maxRecDepth 100000 in
theorem laneSums_lifted (os : Os) (started : os.Started) (H : Type) (enc : TypeId × Value → H) :
    ReturnsInHanded {} Try.checked os 7 .any (Rows.laneSumsSpec.pre6 enc Try.prog Try.f7 Rows.laneSumsRow.domain false) (Rows.laneSumsSpec.post enc Try.prog Try.f7 false true false false) := by
  refine returnsInHanded_of_change_sized (C := Try.checked) own started (by kernel_rfl) Try.func7
    (ChangeSpec.witness6 (enc := enc) (C := Try.checked) false ⟨#[], #[.int .i64 0, .slice none 0 0], []⟩ 8 (by kernel_rfl) (by kernel_rfl) (by kernel_rfl) (by kernel_rfl)) ?_
  intro W base args ds gs before hval0 hW hcnd hsz0 _
  have hval : ∀ (j : Nat) t v, Try.f7.params[j]? = some t → args[j]? = some v → Value.okWide Try.prog W .any base t v := hval0
  have hW' : DataW.Whole enc Try.prog Try.f7.params.toList Rows.laneSumsSpec.vars false W args.toList ds gs before := hW
  have hlen : args.toList.length = Try.f7.params.toList.length ∧ ds.length = Try.f7.params.toList.length := by
    obtain ⟨p, q, hA, _⟩ := hW'
    exact trodAll_len _ _ _ _ hA
  have hsz : (DataW.weightsEach Try.prog (Try.f7.params.toList ++ Rows.laneSumsSpec.plain.varTypes Try.prog) (ds ++ gs)).all (· ≤ reachBytes) = true := hsz0
  rw [Try.params7] at hval hlen hsz
  obtain ⟨p0, p1, rfl⟩ := args2 args hlen.1
  obtain ⟨d0, d1, rfl⟩ := list2 ds hlen.2
  obtain rfl : gs = [] := by
    obtain ⟨p, q, _, hV, _⟩ := hW'
    exact (trodVars_none hV).1
  obtain ⟨_, _, hA, _⟩ := id hW'
  rw [Try.params7] at hA
  obtain ⟨_, _, hT0, hA, _⟩ := hA
  obtain ⟨_, _, hT1, hA, _⟩ := hA
  obtain ⟨room, rfl, hroom⟩ := open_i64 (hval 0 3 p0 rfl rfl)
  obtain ⟨A, n, cap, L, rfl, hl⟩ := open_lsteps (j := 1) (hval 1 36 p1 rfl rfl) hT1 hsz rfl rfl
  refine (laneSums_any room A n cap L W hroom hl).mono fun e W' ⟨he, hb⟩ => ?_
  subst he
  have hp : ∀ t ∈ Try.f7.params.toList, Try.prog.readableRec t = true ∧ t < Try.prog.types.size := by
    rw [Try.params7]
    intro t ht
    simp at ht
    rcases ht with rfl | rfl
    all_goals first | exact readable3 | exact readable36
  have hpost := law_post (enc := enc) (P := Try.prog) (f := Try.f7) (s := Rows.laneSumsSpec) (tb := 4) (W' := W') laidOut hW' rfl (by kernel_rfl) Try.underlying4 hp ⟨rfl, rfl, rfl⟩ hb
  exact ⟨_, rfl, hpost⟩

theorem laneSums_holds : Rows.LaneSumsSaid :=
  OpenClaim.holds_of_wide 7 Try.f7 rfl rfl rfl rfl rfl rfl rfl ⟨rfl, rfl, rfl, rfl, rfl⟩ rfl rfl rfl rfl rfl (by kernel_rfl) Try.func7 (by kernel_rfl)
    (of_decide_eq_true (by kernel_rfl)) (by unfold Func.isWrapper; first | (rw [if_pos (by decide +kernel)]; kernel_rfl) | (rw [if_neg (by decide +kernel)]; exact ⟨rfl, rfl⟩))
    (fun os started H enc _ => laneSums_lifted os started H enc)
#print axioms laneSums_holds
end Go.Proofs.Ytekljcgljoianaa

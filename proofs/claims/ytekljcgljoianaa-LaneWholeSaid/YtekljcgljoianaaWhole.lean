/-
  Proved: LaneWhole: where nothing is lost, and there is room, all comes that was put, in order; the law answers true.
  No condition.
-/
import Derived.Test.YtekljcgljoianaaLaneM
namespace Go.Proofs.Ytekljcgljoianaa
open Go.RowKit Go.ChangeShapes Go.WideShapes Go.ChangeAt
set_option linter.unusedVariables false

/-- The lane when i were put and a got. -/
def st (r : Nat) (S : Nat → List UInt8) (i a : Nat) : LS := ⟨r, false, i, a, 0, ((List.range i).map S).drop a⟩
theorem st_len (r : Nat) (S : Nat → List UInt8) (i a : Nat) : (st r S i a).Q.length = i - a := by simp [st]
theorem st_fine {r : Nat} (S : Nat → List UInt8) {i a : Nat} (h1 : 1 ≤ r) (h2 : r ≤ 1000) (ha : a ≤ i) (hi : i ≤ a + r) (hK : i ≤ 1000000) : (st r S i a).fine := by
  have := st_len r S i a
  refine ⟨⟨h1, h2⟩, ?_, ?_, ?_, ?_, ?_⟩
  · rw [this]; show i - a ≤ r; omega
  · rw [this]; show (i : Int) = a + 0 + ((i - a : Nat) : Int); omega
  · show (0 : Int) ≤ a; omega
  · exact Int.le_refl _
  · show (i : Int) ≤ 1000000; omega
theorem st_get (r : Nat) (S : Nat → List UInt8) (i a : Nat) (h : a < i) : (st r S i a).Q = S a :: (st r S i (a + 1)).Q ∧ (st r S i a).get = st r S i (a + 1) := by
  have h1 : (st r S i a).Q = S a :: (st r S i (a + 1)).Q := by
    show ((List.range i).map S).drop a = S a :: ((List.range i).map S).drop (a + 1)
    rw [List.drop_eq_getElem_cons (by simpa using h)]
    simp
  refine ⟨h1, ?_⟩
  unfold LS.get
  rw [h1]
  rfl
theorem st_put (r : Nat) (S : Nat → List UInt8) (i a : Nat) (ha : a ≤ i) (h : i < a + r) : (st r S i a).put (S i) = st r S (i + 1) a ∧ (st r S i a).putE = 0 := by
  have hl := st_len r S i a
  have hne : ¬ (st r S i a).Q.length = (st r S i a).room := by rw [hl]; show ¬ i - a = r; omega
  constructor
  · unfold LS.put
    rw [if_neg (by simp [st]), if_neg hne]
    have hQ : (st r S i a).Q ++ [S i] = (st r S (i + 1) a).Q := by
      show ((List.range i).map S).drop a ++ [S i] = ((List.range (i + 1)).map S).drop a
      rw [List.range_succ, List.map_append, List.drop_append_of_le_length (by simpa using ha)]
      rfl
    rw [hQ]
    simp [st]
  · unfold LS.putE
    rw [if_neg (by simp [st]), if_neg hne]

set_option maxRecDepth 100000 in
set_option maxHeartbeats 8000000 in
theorem laneWhole_any (room : Int) (A : Option Addr) (n cap : Nat) (S : Nat → List UInt8) (w : World) (hr : -9223372036854775808 ≤ room ∧ room ≤ 9223372036854775807) (hl : LStrsAt w w.heap.size A n S) :
    Calls Try.prog 3 #[.int .i64 room, .slice A n cap] w fun e w' => e = .returned (.bool true) ∧ Below w.heap.size w w' := by
  have hn := hl.1
  have HL := hide hl; clear hl
  go_enter Try.func3, Try.ntmps3
  go_wp2_with fail
  refine (awake_any _).mono ?_
  rintro e w1 ⟨rfl, hb1⟩
  have hs1 := hb1.size
  go_wp2_with fail
  refine (laneNew_any (YL (w1.heap.size + 1) w1.heap.size) room w1).mono ?_
  rintro e w2 (⟨r1, r2, r, rfl, rfl, hb2, hz2, hl2⟩ | ⟨hbad, rfl, rfl⟩)
  rotate_left
  · go_wp2_with fail
    go_ret
    exact ⟨rfl, hb1⟩
  have HZ2 := hide (show w1.heap.size + 2 ≤ w2.heap.size by omega); clear hz2
  have HL2 := hide (show LaneAt w2 (YL (w1.heap.size + 1) w1.heap.size) (w1.heap.size + 1) w1.heap.size (st r S 0 0) from hl2)
  have hbw2 := hide (hb1.trans (hb2.mono hs1))
  clear hl2 hb1 hb2
  generalize hg : w1.heap.size + 1 = g at *
  generalize hrg : w1.heap.size = rg at *
  have hwg : w.heap.size ≤ g := by omega
  have hwr : w.heap.size ≤ rg := by omega
  clear hg hrg
  have HXL := hide (show ∀ j, YL g rg j → w.heap.size ≤ j from fun j hj => by rcases hj with rfl | rfl; exact hwg; exact hwr)
  by_cases hlong : 300 < n
  · go_wp2_with fail
    go_ret
    exact ⟨rfl, hbw2.out⟩
  go_wp2_with fail
  go_loopw [8, 9] (fun v i wr => ∃ (k a : Nat), k ≤ n ∧ i = .int .i64 k ∧ v = .int .i64 a ∧ a ≤ k ∧ k ≤ a + r ∧ Below w.heap.size w wr ∧ LaneAt wr (YL g rg) g rg (st r S k a))
    (fun _ i _ => n - (intOf i).toNat)
  case atStart => exact ⟨0, 0, by omega, rfl, rfl, by omega, by omega, hbw2.out, HL2.out⟩
  case round =>
    obtain ⟨k, a, hk, rfl, rfl, hak, hkr, hbel, hlane⟩ := hrel
    have HLn := hide hlane; have HB := hide hbel
    clear hlane
    by_cases hlt : k < n
    · clear hbel
      go_wp2_with fail
      go_loopw [8] (fun v wx => ∃ (a' : Nat), v = .int .i64 a' ∧ a' ≤ k ∧ k ≤ a' + r ∧ Below w.heap.size w wx ∧ LaneAt wx (YL g rg) g rg (st r S k a')) (fun v _ => k - (intOf v).toNat)
      case atStart => exact ⟨a, rfl, hak, hkr, HB.out, HLn.out⟩
      case round =>
        obtain ⟨a', rfl, hak', hkr', hbel, hlane⟩ := hrel
        have HLx := hide hlane; have HBx := hide hbel
        obtain ⟨q, hq⟩ : ∃ q : Nat, q = k - a' := ⟨_, rfl⟩
        have t2 : wr.cell? ⟨g, 2, none⟩ = some (.int .i64 q) := by
          have := hlane.cells.1
          rw [st_len, ← hq] at this
          exact this
        clear hlane
        have hf := st_fine S (r := r) (by omega) (by omega) hak' hkr' (by omega)
        by_cases hfull : q = r
        · subst hfull
          have hlt' : a' < k := by omega
          obtain ⟨g1, g2⟩ := st_get q S k a' hlt'
          have hlta : a' < n := by omega
          obtain ⟨b, o, hA, hbB, c1, hsz⟩ := (HL.out.below hbel).2 a' hlta
          subst hA
          have ha0 : (0 : Int) ≤ (a' : Int) := by omega
          have ha1 : (a' : Int) < (n : Int) := by omega
          have hnY : ¬ YL g rg b := fun hy => by have := HXL.out _ hy; omega
          clear hq hbel
          go_wp2_with (go_at_call 10; refine (len_any _ _ _ t2).mono ?_; rintro e w6 ⟨rfl, rfl⟩)
          refine (get_any (YL g rg) (YL g rg) g rg _ wr (.inl rfl) hf HLx.out).mono ?_
          rintro e w4 (⟨hQ, -, -⟩ | ⟨q', rr, vv, hQ, rfl, hrv, hc4, hl4⟩)
          · rw [g1] at hQ; cases hQ
          rw [g1] at hQ
          injection hQ with e1 e2
          subst e1
          rw [g2] at hl4
          have c4 : w4.cell? ⟨b, o + a', none⟩ = some (.string ⟨(S a').toArray⟩) := hc4.cell c1 hnY
          have HB4 := hide (HBx.out.trans (hc4.toBelow (B := w.heap.size) HXL.out HBx.out.size))
          have hb4 : b < w4.heap.size := cell_lt c4
          obtain ⟨Av, cv, rfl⟩ := hrv.form
          have HRV := hide hrv; have HL4 := hide hl4
          clear hrv hl4 hc4 c1 e2 g1 g2 t2
          go_wp2_with fail
          refine wp_region_class (by kernel_rfl) (by kernel_rfl) (fun C hC hS hN => ?_)
          have k1 : ∀ (u : Of C), u.w.cell? ⟨b, o + a', none⟩ = some (.string ⟨(S a').toArray⟩) := fun u => ((hC _ u.ok).cell (by exact hb4)).trans c4
          have k2 : ∀ (u : Of C), (convert 29 9 (.slice Av (S a').length cv)).run Try.prog u.w = .ok (.string ⟨(S a').toArray⟩) u.w := fun u => convert_row (HRV.out.chg (Chg.below (X := YL g rg) (hC _ u.ok)))
          clear hS c4
          repeat (go_big_quiet_step (fail))
          refine wpQuiet_nil ?_
          intro u hu
          have HU := hide hu
          clear k1 k2 hC hN hu
          go_wp2_with fail
          go_roundw
          case rel => exact ⟨a' + 1, by go_num, by omega, by omega, HB4.out.trans (HU.out.mono HB4.out.size), HL4.out.chg (Chg.below (X := YL g rg) HU.out) (HU.out.block _ HL4.out.size.1) (HU.out.block _ HL4.out.size.2.1)⟩
          case measure => simp [intOf]; omega
        · have hneq : ¬ (q : Int) = (r : Int) := by omega
          have hlt3 : k + 1 ≤ a' + r := by omega
          obtain ⟨b, o, hA, hbB, c1, hsz⟩ := (HL.out.below hbel).2 k hlt
          subst hA
          have hk0 : (0 : Int) ≤ (k : Int) := by omega
          have hk1 : (k : Int) < (n : Int) := by omega
          obtain ⟨c, u, hcs, hbu, hzu, hru⟩ := convert_str wr (S k)
          have hsg := HLx.out.size
          have HBU := hide hbu
          have HR := hide (hru (YL g rg) (fun hy => by rcases hy with h1 | h1 <;> omega) (by omega))
          have HLu := hide (HLx.out.chg (Chg.below (X := YL g rg) hbu) (hbu.block _ hsg.1) (hbu.block _ hsg.2.1))
          obtain ⟨p1, p2⟩ := st_put r S k a' hak' (by omega)
          have HP1 := hide p1; have HP2 := hide p2
          have hzu' : wr.heap.size < u.heap.size := by omega
          clear hbel hbu hzu hru p1 p2 hq
          go_wp2_with (go_at_call 10; refine (len_any _ _ _ t2).mono ?_; rintro e w6 ⟨rfl, rfl⟩)
          refine (put_any (YL g rg) (YL g rg) g rg _ _ _ _ (S k) u (.inl rfl) (.inr rfl) (fun j hj => by rcases hj with rfl | rfl <;> omega) hf (by show (k : Int) < 1000000; omega) HLu.out HR.out hsz).mono ?_
          rintro e w4 ⟨rfl, hc4, hl4⟩
          rw [HP1.out] at hl4
          rw [HP2.out]
          have HB4 := hide ((HBx.out.trans (HBU.out.mono HBx.out.size)).trans (hc4.toBelow (B := w.heap.size) HXL.out (by have := HBx.out.size; omega)))
          have HL4 := hide hl4
          clear hl4 hc4 hcs c1 t2
          go_wp2_with fail
          go_roundw
          case rel => exact ⟨k + 1, a', by omega, by go_num, rfl, by omega, hlt3, HB4.out, HL4.out⟩
          case measure => simp [intOf]; omega
    · obtain rfl : k = n := by omega
      clear hbel
      go_wp2_with fail
      go_loopw [8] (fun v wx => ∃ (a' : Nat), v = .int .i64 a' ∧ a' ≤ k ∧ k ≤ a' + r ∧ Below w.heap.size w wx ∧ LaneAt wx (YL g rg) g rg (st r S k a')) (fun v _ => k - (intOf v).toNat)
      case atStart => exact ⟨a, rfl, hak, hkr, HB.out, HLn.out⟩
      case round =>
        obtain ⟨a', rfl, hak', hkr', hbel, hlane⟩ := hrel
        have HLx := hide hlane; have HBx := hide hbel
        clear hlane
        have hf := st_fine S (r := r) (by omega) (by omega) hak' hkr' (by omega)
        by_cases hlt' : a' < k
        · obtain ⟨g1, g2⟩ := st_get r S k a' hlt'
          obtain ⟨b, o, hA, hbB, c1, hsz⟩ := (HL.out.below hbel).2 a' hlt'
          subst hA
          have ha0 : (0 : Int) ≤ (a' : Int) := by omega
          have ha1 : (a' : Int) < (k : Int) := by omega
          have hnY : ¬ YL g rg b := fun hy => by have := HXL.out _ hy; omega
          clear hbel
          go_wp2_with fail
          refine (get_any (YL g rg) (YL g rg) g rg _ wr (.inl rfl) hf HLx.out).mono ?_
          rintro e w4 (⟨hQ, -, -⟩ | ⟨q', rr, vv, hQ, rfl, hrv, hc4, hl4⟩)
          · rw [g1] at hQ; cases hQ
          rw [g1] at hQ
          injection hQ with e1 e2
          subst e1
          rw [g2] at hl4
          have c4 : w4.cell? ⟨b, o + a', none⟩ = some (.string ⟨(S a').toArray⟩) := hc4.cell c1 hnY
          have HB4 := hide (HBx.out.trans (hc4.toBelow (B := w.heap.size) HXL.out HBx.out.size))
          have hb4 : b < w4.heap.size := cell_lt c4
          obtain ⟨Av, cv, rfl⟩ := hrv.form
          have HRV := hide hrv; have HL4 := hide hl4
          clear hrv hl4 hc4 c1 e2 g1 g2
          go_wp2_with fail
          refine wp_region_class (by kernel_rfl) (by kernel_rfl) (fun C hC hS hN => ?_)
          have k1 : ∀ (u : Of C), u.w.cell? ⟨b, o + a', none⟩ = some (.string ⟨(S a').toArray⟩) := fun u => ((hC _ u.ok).cell (by exact hb4)).trans c4
          have k2 : ∀ (u : Of C), (convert 29 9 (.slice Av (S a').length cv)).run Try.prog u.w = .ok (.string ⟨(S a').toArray⟩) u.w := fun u => convert_row (HRV.out.chg (Chg.below (X := YL g rg) (hC _ u.ok)))
          clear hS c4
          repeat (go_big_quiet_step (fail))
          refine wpQuiet_nil ?_
          intro u hu
          have HU := hide hu
          clear k1 k2 hC hN hu
          go_wp2_with fail
          go_roundw
          case rel => exact ⟨a' + 1, by go_num, by omega, by omega, HB4.out.trans (HU.out.mono HB4.out.size), HL4.out.chg (Chg.below (X := YL g rg) HU.out) (HU.out.block _ HL4.out.size.1) (HU.out.block _ HL4.out.size.2.1)⟩
          case measure => simp [intOf]; omega
        · obtain rfl : a' = k := by omega
          have q4 : wr.cell? ⟨g, 4, none⟩ = some (.int .i64 a') := HLx.out.cells.2.2.1
          have q5 : wr.cell? ⟨g, 5, none⟩ = some (.int .i64 a') := HLx.out.cells.2.2.2.1
          have q6 : wr.cell? ⟨g, 6, none⟩ = some (.int .i64 0) := HLx.out.cells.2.2.2.2.1
          clear hbel
          go_wp2_with fail
          refine (counts_any _ _ _ _ _ q4 q5 q6).mono ?_
          rintro e w5 ⟨rfl, hb5⟩
          have t2 : w5.cell? ⟨g, 2, none⟩ = some (.int .i64 0) := by
            have h := (HLx.out.chg (Chg.below (X := YL g rg) hb5) (hb5.block _ HLx.out.size.1) (hb5.block _ HLx.out.size.2.1)).cells.1
            rw [st_len, Nat.sub_self] at h
            exact h
          have HB5 := hide (HBx.out.trans (hb5.mono HBx.out.size))
          clear q4 q5 q6 hb5
          go_wp2_with (go_at_call 10; refine (len_any _ _ _ t2).mono ?_; rintro e w6 ⟨rfl, rfl⟩)
          go_ret
          exact ⟨rfl, HB5.out⟩

/-! ### The row -/
set_option maxRecDepth 100000 in
theorem laneWhole_lifted (os : Os) (started : os.Started) (H : Type) (enc : TypeId × Value → H) :
    ReturnsInHanded {} Try.checked os 3 .any (Rows.laneWholeSpec.pre6 enc Try.prog Try.f3 Rows.laneWholeRow.domain false) (Rows.laneWholeSpec.post enc Try.prog Try.f3 false true false false) := by
  refine returnsInHanded_of_change_sized (C := Try.checked) own started (by kernel_rfl) Try.func3
    (ChangeSpec.witness6 (enc := enc) (C := Try.checked) false ⟨#[], #[.int .i64 0, .slice none 0 0], []⟩ 8 (by kernel_rfl) (by kernel_rfl) (by kernel_rfl) (by kernel_rfl)) ?_
  intro W base args ds gs before hval0 hW hcnd hsz0 _
  have hval : ∀ (j : Nat) t v, Try.f3.params[j]? = some t → args[j]? = some v → Value.okWide Try.prog W .any base t v := hval0
  have hW' : DataW.Whole enc Try.prog Try.f3.params.toList Rows.laneWholeSpec.vars false W args.toList ds gs before := hW
  have hlen : args.toList.length = Try.f3.params.toList.length ∧ ds.length = Try.f3.params.toList.length := by
    obtain ⟨p, q, hA, _⟩ := hW'
    exact trodAll_len _ _ _ _ hA
  have hsz : (DataW.weightsEach Try.prog (Try.f3.params.toList ++ Rows.laneWholeSpec.plain.varTypes Try.prog) (ds ++ gs)).all (· ≤ reachBytes) = true := hsz0
  rw [Try.params3] at hval hlen hsz
  obtain ⟨p0, p1, rfl⟩ := args2 args hlen.1
  obtain ⟨d0, d1, rfl⟩ := list2 ds hlen.2
  obtain rfl : gs = [] := by
    obtain ⟨p, q, _, hV, _⟩ := hW'
    exact (trodVars_none hV).1
  obtain ⟨_, _, hA, _⟩ := id hW'
  rw [Try.params3] at hA
  obtain ⟨_, _, hT0, hA, _⟩ := hA
  obtain ⟨_, _, hT1, hA, _⟩ := hA
  obtain ⟨room, rfl, hroom⟩ := open_i64 (hval 0 3 p0 rfl rfl)
  obtain ⟨A, n, cap, S, rfl, hl⟩ := open_lstrs (j := 1) (hval 1 22 p1 rfl rfl) hT1 hsz rfl rfl
  refine (laneWhole_any room A n cap S W hroom hl).mono fun e W' ⟨he, hb⟩ => ?_
  subst he
  have hp : ∀ t ∈ Try.f3.params.toList, Try.prog.readableRec t = true ∧ t < Try.prog.types.size := by
    rw [Try.params3]
    intro t ht
    simp at ht
    rcases ht with rfl | rfl
    all_goals first | exact readable22 | exact readable3
  have hpost := law_post (enc := enc) (P := Try.prog) (f := Try.f3) (s := Rows.laneWholeSpec) (tb := 4) (W' := W') laidOut hW' rfl (by kernel_rfl) Try.underlying4 hp ⟨rfl, rfl, rfl⟩ hb
  exact ⟨_, rfl, hpost⟩

theorem laneWhole_holds : Rows.LaneWholeSaid :=
  OpenClaim.holds_of_wide 3 Try.f3 rfl rfl rfl rfl rfl rfl rfl ⟨rfl, rfl, rfl, rfl, rfl⟩ rfl rfl rfl rfl rfl (by kernel_rfl) Try.func3 (by kernel_rfl)
    (of_decide_eq_true (by kernel_rfl)) (by unfold Func.isWrapper; first | (rw [if_pos (by decide +kernel)]; kernel_rfl) | (rw [if_neg (by decide +kernel)]; exact ⟨rfl, rfl⟩))
    (fun os started H enc _ => laneWhole_lifted os started H enc)
#print axioms laneWhole_holds
end Go.Proofs.Ytekljcgljoianaa

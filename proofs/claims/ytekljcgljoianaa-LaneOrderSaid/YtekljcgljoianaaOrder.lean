/-
  Proved: LaneOrder: what is got is what was put, in order, each once, some of it missing; the law answers true at every room and every list of steps.
  No condition.
-/
import Derived.Test.YtekljcgljoianaaLaneL
namespace Go.Proofs.Ytekljcgljoianaa
open Go.RowKit Go.ChangeShapes Go.WideShapes Go.ChangeAt
set_option linter.unusedVariables false

theorem put_ok {x : LS} {b : List UInt8} (h : x.putE = 0) : (x.put b).Q = x.Q ++ [b] := by
  unfold LS.putE at h
  unfold LS.put
  split
  · rename_i hc; rw [if_pos hc] at h; cases h
  · rename_i hc
    rw [if_neg hc] at h
    split
    · rename_i hl; rw [if_pos hl] at h; cases h
    · rfl
theorem put_no {x : LS} {b : List UInt8} (h : x.putE ≠ 0) : (x.put b).Q = x.Q := by
  unfold LS.putE at h
  unfold LS.put
  split
  · rfl
  · rename_i hc
    rw [if_neg hc] at h
    split
    · rfl
    · rename_i hl; rw [if_neg hl] at h; exact absurd rfl h

set_option maxRecDepth 100000 in
set_option maxHeartbeats 8000000 in
theorem laneOrder_any (room : Int) (A : Option Addr) (n cap : Nat) (L : Nat → LSt) (w : World) (hr : -9223372036854775808 ≤ room ∧ room ≤ 9223372036854775807) (hl : LStepsAt w w.heap.size A n L) :
    Calls Try.prog 4 #[.int .i64 room, .slice A n cap] w fun e w' => e = .returned (.bool true) ∧ Below w.heap.size w w' := by
  have hn := hl.1
  have HL := hide hl; clear hl
  obtain ⟨i9, hi9, hy0, hy1, hy2⟩ := info_parts info9
  go_enter Try.func4, Try.ntmps4
  go_wp2_with fail
  refine (awake_any _).mono ?_
  rintro e w1 ⟨rfl, hb1⟩
  have hs1 := hb1.size
  go_wp2_with fail
  refine (laneNew_any (XO (w1.heap.size + 1) w1.heap.size none) room w1).mono ?_
  rintro e w2 (⟨r1, r2, r, rfl, rfl, hb2, hz2, hl2⟩ | ⟨hbad, rfl, rfl⟩)
  rotate_left
  · go_wp2_with fail
    go_ret
    exact ⟨rfl, hb1⟩
  have HZ2 := hide (show w1.heap.size + 2 ≤ w2.heap.size by omega); clear hz2
  have HO := hide (show OrderAt w2 (w1.heap.size + 2) (w1.heap.size + 1) w1.heap.size none 0 (LS.new r) [] 0 from ⟨hl2, LS.new_fine (by omega) (by omega), ⟨by simp, .inl ⟨rfl, rfl⟩⟩, by simp [LS.new], by simp, by omega, by omega⟩)
  have hbw2 := hide (hb1.trans (hb2.mono hs1))
  clear hl2 hb1 hb2
  generalize hB : w1.heap.size + 2 = B at *
  generalize hg : w1.heap.size + 1 = g at *
  generalize hrg : w1.heap.size = rg at *
  have hwB : w.heap.size ≤ B := by omega
  have hwg : w.heap.size ≤ g := by omega
  have hwr : w.heap.size ≤ rg := by omega
  clear hB hg hrg
  go_wp2_with fail
  go_loopw [8, 9, 10] (fun v a i wr => ∃ (k : Nat) (A' : Option Addr) (c : Nat) (x : LS) (P : List (List UInt8)) (m : Nat), k ≤ n ∧ k ≤ 200 ∧ i = .int .i64 k ∧ v = .slice A' P.length c ∧ a = .int .i64 m ∧ Below w.heap.size w wr ∧ OrderAt wr B g rg A' c x P m ∧ x.asked ≤ k ∧ P.length ≤ k ∧ B ≤ wr.heap.size)
    (fun _ _ i _ => n - (intOf i).toNat)
  case atStart => exact ⟨0, none, 0, LS.new r, [], 0, by omega, by omega, rfl, rfl, rfl, hbw2.out, HO.out, by simp [LS.new], by simp, HZ2.out⟩
  case round =>
    obtain ⟨k, A', c, x, P, m, hk, hk200, rfl, rfl, rfl, hbel, hord, hask, hPk, hBs⟩ := hrel
    have HBs := hide hBs; clear hBs
    have HO := hide hord
    by_cases hlt : k < n
    · by_cases hlt2 : k < 200
      · obtain ⟨b, o, hA, hbB, c1, hd, hlen, Ab, cb, c2, hrow⟩ := (HL.out.below hbel).2 k hlt
        subst hA
        have hk0 : (0 : Int) ≤ (k : Int) := by omega
        have hk1 : (k : Int) < (n : Int) := by omega
        have hXB : ∀ j, XO g rg A' j → w.heap.size ≤ j := fun j hj => by
          rcases hj with rfl | rfl | ⟨a, ha, rfl⟩
          · exact hwg
          · exact hwr
          · have := (own_block HO.out.row a ha).1; omega
        have HXB := hide hXB
        have hXL : ∀ j, YL g rg j → w.heap.size ≤ j := fun j hj => by rcases hj with rfl | rfl; exact hwg; exact hwr
        have HXL := hide hXL
        have HRow := hide (hrow.weaken (Y := XO g rg A') hXB)
        have hmP : m ≤ P.length := HO.out.le
        clear hrow hord hXB hXL
        have HB := hide hbel
        by_cases d0 : (L k).d = 0
        · rw [d0] at c1
          go_wp2_with fail
          refine (put_any (XO g rg A') (YL g rg) g rg x Ab (L k).b.length cb (L k).b wr (.inl rfl) (.inr rfl) HO.out.lt HO.out.fine (by omega) HO.out.lane HRow.out hlen).mono ?_
          rintro e w4 ⟨rfl, hc4, hl4⟩
          have hf := HO.out.fine.put (by omega) (L k).b
          have hak : (x.put (L k).b).asked ≤ ((k + 1 : Nat) : Int) := by
            have := (HO.out.fine.step (by omega) 0 (L k).b).2.1
            have e0 : x.step 0 (L k).b = x.put (L k).b := rfl
            rw [e0] at this
            omega
          have HB4 := hide (HB.out.trans (hc4.toBelow (B := w.heap.size) HXL.out HB.out.size))
          by_cases hp : x.putE = 0
          · rw [hp]
            have HP4 := hide (show OrderPre w4 B g rg A' c (x.put (L k).b) P m from ⟨hl4, hf, own_chg HO.out.row hc4 (fun j hj => by rcases hj with rfl | rfl; exact HO.out.hg; exact HO.out.hrg), hmP, HO.out.hg, HO.out.hrg⟩)
            have hYb : ¬ YL g rg b := fun hy => by have := HXL.out _ hy; omega
            have c3 : w4.cell? ⟨b, o + k * 2 + 1, none⟩ = some (.slice Ab (L k).b.length cb) := hc4.cell c2 hYb
            have hcv := convert_row (HRow.out.chg hc4)
            have HROW := hide (HP4.out.row.alloc (.cells #[.string ⟨(L k).b.toArray⟩] 9))
            have hB4 : B ≤ w4.heap.size := by have := hc4.size; have := HBs.out; omega
            clear hc4 hl4 c1 c2
            go_wp2_with (at_builtin; go_loud (refine wpList_append_lies _ rfl (.tmp 65) (.tmp 72) 22 rfl B 9 i9 (.string ⟨#[]⟩) 1 16 Try.underlying22 hi9 hy0 hy1 hy2 rfl (by decide) _ _ _ rfl HROW.out ⟨w4.heap.size, 0, none⟩ 1 1 [.string ⟨(L k).b.toArray⟩] rfl rfl ?c1 ?c2 (by decide) ?c3 ?c4 ?c5 (w4.heap.size + 1) (by simp) ?_))
            case c1 => exact (cell_one_new _ _ _)
            case c2 => intro u hu; simp at hu; subst hu; rfl
            case c3 => unfold maxLen; omega
            case c4 => omega
            case c5 => simp; omega
            intro p c' w5 hown5 hgr5 hp5 hlt5
            have hB5 : Below w.heap.size w w5 := (HB4.out.alloc HB4.out.size _).grown hgr5 (by simp; have := HB4.out.size; omega) (fun j hj => by have := (HROW.out.lt j hj).1; omega)
            have HO5 := hide (OrderAt.grow (b := (L k).b) (Q := x.Q) (HP4.out.below ((Below.refl _ _).alloc (Nat.le_refl _) (.cells #[.string ⟨(L k).b.toArray⟩] 9))) hgr5 hown5 (by
              rcases hp5 with h1 | h1
              · exact .inl h1
              · exact .inr (by simp; omega)) (put_ok hp) HO.out.sub)
            have HB5 := hide hB5
            have hgr5s := hgr5.size
            clear hown5 hgr5 hp5 hB5
            go_wp2_with fail
            go_roundw
            case rel => exact ⟨k + 1, some ⟨p, 0, none⟩, c', _, P ++ [(L k).b], m, by omega, by omega, by go_num, by simp, rfl, HB5.out, HO5.out, hak, by simp; omega, by have := hgr5s; simp at this; omega⟩
            case measure => simp [intOf]; omega
          · have HO4 := hide (HO.out.lane_on hc4 hl4 hf (by rw [put_no hp]; exact HO.out.sub) hmP)
            have HB4s := hide (Nat.le_trans HBs.out hc4.size)
            clear hc4 hl4 c1 c2
            go_wp2_with fail
            go_roundw
            case rel => exact ⟨k + 1, A', c, _, P, m, by omega, by omega, by go_num, rfl, rfl, HB4.out, HO4.out, hak, by omega, HB4s.out⟩
            case measure => simp [intOf]; omega
        by_cases d1 : (L k).d = 1
        · rw [d1] at c1
          go_wp2_with fail
          refine (get_any (XO g rg A') (YL g rg) g rg x wr (.inl rfl) HO.out.fine HO.out.lane).mono ?_
          rintro e w4 (⟨hQ, rfl, rfl⟩ | ⟨q, rr, vv, hQ, rfl, hrv, hc4, hl4⟩)
          · clear hQ
            go_wp2_with fail
            refine wp_loop_rounds 1 ?_
            rw [rounds_succ]
            go_wp2_with fail
            go_region
            go_wp2_with fail
            go_roundw
            case rel => exact ⟨k + 1, A', c, x, P, m, by omega, by omega, by go_num, rfl, rfl, HB.out.drew, HO.out.below (Below.refl _ _).drew, by omega, by omega, HBs.out⟩
            case measure => simp [intOf]; omega
          · have hsub : (q :: rr).Sublist (P.drop m) := by have := HO.out.sub; rwa [hQ] at this
            have HB4 := hide (HB.out.trans (hc4.toBelow (B := w.heap.size) HXL.out HB.out.size))
            have hpos : 0 < P.length := by
              cases P with
              | nil => simp at hsub
              | cons _ _ => simp
            obtain ⟨gp, rfl⟩ : ∃ gp, A' = some ⟨gp, 0, none⟩ := by
              rcases HO.out.row.2 with ⟨_, h0⟩ | ⟨gp, _, _, he, _⟩
              · omega
              · injection he with he; exact ⟨gp, he⟩
            have hrow4 := own_chg HO.out.row hc4 (fun j hj => by rcases hj with rfl | rfl; exact HO.out.hg; exact HO.out.hrg)
            have HB4s := hide (Nat.le_trans HBs.out hc4.size)
            have hx1 : x.get.asked ≤ ((k + 1 : Nat) : Int) := by unfold LS.get; rw [hQ]; simp only; omega
            have hf := HO.out.fine.get
            have hQ4 : x.get.Q = rr := by unfold LS.get; rw [hQ]
            have HC4 := hide hc4; have HL4 := hide hl4; have HRV := hide hrv; have HROW := hide hrow4; have HSUB := hide hsub; have HQ4 := hide hQ4; have HX1 := hide hx1
            obtain ⟨Av, cv, rfl⟩ := hrv.form
            clear hQ hc4 hl4 hrv hrow4 hsub hQ4 hx1 c1 c2
            go_wp2_with fail
            go_loopw [9] (fun a wx => ∃ (m' : Nat), a = .int .i64 m' ∧ m' ≤ P.length ∧ (q :: rr).Sublist (P.drop m') ∧ Below w4.heap.size w4 wx) (fun a _ => P.length - (intOf a).toNat)
            case atStart => exact ⟨m, rfl, hmP, HSUB.out, Below.refl _ _⟩
            case round =>
              obtain ⟨m', rfl, hm', hsub', hbx⟩ := hrel
              have hlt' : m' < P.length := by
                rcases Nat.lt_or_ge m' P.length with h | h
                · exact h
                · rw [List.drop_eq_nil_of_le h] at hsub'; simp at hsub'
              have hsub2 := hsub'
              rw [List.drop_eq_getElem_cons hlt'] at hsub2
              have HBX := hide hbx
              have HOX := hide (own_chg HROW.out (Chg.below (X := YL g rg) hbx) (fun j hj => by rcases hj with rfl | rfl; exact HO.out.hg; exact HO.out.hrg))
              have hgp := own_block HOX.out _ rfl
              have hcell : wr.cell? ⟨gp, m', none⟩ = some (.string ⟨P[m'].toArray⟩) := by
                rw [HOX.out.cellAt m' (by omega)]
                simp [hlt', strV]
              have hcv : (convert 29 9 (.slice Av q.length cv)).run Try.prog wr = .ok (.string ⟨q.toArray⟩) wr := convert_row (HRV.out.chg (Chg.below (X := XO g rg (some ⟨gp, 0, none⟩)) hbx))
              have hgs : gp < wr.heap.size := hgp.2
              have hm0 : (0 : Int) ≤ (m' : Int) := by omega
              have hm1 : (m' : Int) < (P.length : Int) := by omega
              have hBelx := hide (HB4.out.trans (hbx.mono HB4.out.size))
              by_cases hpq : P[m'] = q
              · rw [hpq] at hcell hsub2
                have hsub3 : rr.Sublist (P.drop (m' + 1)) := by simpa using hsub2
                have HS3 := hide hsub3
                clear hsub' hsub2 hsub3 hgp hbx
                go_wp2_with fail
                refine wp_region_class (by kernel_rfl) (by kernel_rfl) (fun C hC hS hN => ?_)
                have g1 : ∀ (u : Of C), u.w.cell? ⟨gp, m', none⟩ = some (.string ⟨q.toArray⟩) := fun u => ((hC _ u.ok).cell (by exact hgs)).trans hcell
                have g2 : ∀ (u : Of C), (convert 29 9 (.slice Av q.length cv)).run Try.prog u.w = .ok (.string ⟨q.toArray⟩) u.w := fun u => convert_row ((HRV.out.chg (Chg.below (X := XO g rg (some ⟨gp, 0, none⟩)) HBX.out)).chg (Chg.below (X := XO g rg (some ⟨gp, 0, none⟩)) (hC _ u.ok)))
                clear hS hcell hcv
                repeat (go_big_quiet_step (fail))
                refine wpQuiet_nil ?_
                intro u hu
                have HU := hide hu
                clear g1 g2 hC hN hu
                go_wp2_with fail
                go_roundw
                case rel => exact ⟨k + 1, some ⟨gp, 0, none⟩, c, x.get, P, m' + 1, by omega, by omega, by go_num, rfl, by go_num, hBelx.out.trans (HU.out.mono hBelx.out.size), ((HO.out.lane_on HC4.out HL4.out hf (by rw [HQ4.out]; exact HS3.out) (by omega)).below HBX.out).below HU.out, HX1.out, by omega, by have h1 := HB4s.out; have h2 := HBX.out.size; have h3 := HU.out.size; omega⟩
                case measure => simp [intOf]; omega
              · have hsub3 : (q :: rr).Sublist (P.drop (m' + 1)) := by
                  cases hsub2 with
                  | cons _ h => exact h
                  | cons_cons => exact absurd rfl hpq
                have HS3 := hide hsub3
                obtain ⟨pb, hpb⟩ : ∃ l, l = P[m'] := ⟨_, rfl⟩
                rw [← hpb] at hcell hpq
                have hbq : (pb == q) = false := by simpa using hpq
                clear hpb hsub' hsub2 hsub3 hgp hbx
                go_wp2_with fail
                refine wp_region_class (by kernel_rfl) (by kernel_rfl) (fun C hC hS hN => ?_)
                have g1 : ∀ (u : Of C), u.w.cell? ⟨gp, m', none⟩ = some (.string ⟨pb.toArray⟩) := fun u => ((hC _ u.ok).cell (by exact hgs)).trans hcell
                have g2 : ∀ (u : Of C), (convert 29 9 (.slice Av q.length cv)).run Try.prog u.w = .ok (.string ⟨q.toArray⟩) u.w := fun u => convert_row ((HRV.out.chg (Chg.below (X := XO g rg (some ⟨gp, 0, none⟩)) HBX.out)).chg (Chg.below (X := XO g rg (some ⟨gp, 0, none⟩)) (hC _ u.ok)))
                clear hS hcell hcv
                repeat (go_big_quiet_step (fail))
                refine wpQuiet_nil ?_
                intro u hu
                have HU := hide hu
                clear g1 g2 hC hN hu
                go_wp2_with fail
                go_roundw
                case rel => exact ⟨m' + 1, by go_num, by omega, HS3.out, HBX.out.trans (HU.out.mono HBX.out.size)⟩
                case measure => simp [intOf]; omega
        by_cases d2 : (L k).d = 2
        · rw [d2] at c1
          go_wp2_with fail
          refine (lose_any (XO g rg A') (YL g rg) g rg x wr (.inl rfl) HO.out.fine HO.out.lane).mono ?_
          rintro e w4 (⟨hQ, rfl, rfl⟩ | ⟨q, rr, hQ, rfl, hc4, hl4⟩)
          · clear hQ
            go_wp2_with fail
            go_roundw
            case rel => exact ⟨k + 1, A', c, x, P, m, by omega, by omega, by go_num, rfl, rfl, HB.out, HO.out, by omega, by omega, HBs.out⟩
            case measure => simp [intOf]; omega
          · have hak : x.lose.asked ≤ ((k + 1 : Nat) : Int) := by unfold LS.lose; rw [hQ]; simp only; omega
            have HB4 := hide (HB.out.trans (hc4.toBelow (B := w.heap.size) HXL.out HB.out.size))
            have HB4s := hide (Nat.le_trans HBs.out hc4.size)
            have HO4 := hide (HO.out.lane_on hc4 hl4 HO.out.fine.lose (by
              have h1 : x.lose.Q = rr := by unfold LS.lose; rw [hQ]
              rw [h1]
              have h2 := HO.out.sub
              rw [hQ] at h2
              exact (List.sublist_cons_self q rr).trans h2) hmP)
            clear hQ hc4 hl4 c1 c2
            go_wp2_with fail
            go_roundw
            case rel => exact ⟨k + 1, A', c, _, P, m, by omega, by omega, by go_num, rfl, rfl, HB4.out, HO4.out, hak, by omega, HB4s.out⟩
            case measure => simp [intOf]; omega
        by_cases d3 : (L k).d = 3
        · rw [d3] at c1
          go_wp2_with fail
          refine (cut_any (XO g rg A') (YL g rg) g rg x wr (.inl rfl) HO.out.fine HO.out.lane).mono ?_
          rintro e w4 ⟨rfl, hc4, hl4⟩
          have hak : x.down.asked ≤ ((k + 1 : Nat) : Int) := by simp only [LS.down]; omega
          have HB4 := hide (HB.out.trans (hc4.toBelow (B := w.heap.size) HXL.out HB.out.size))
          have HB4s := hide (Nat.le_trans HBs.out hc4.size)
          have HO4 := hide (HO.out.lane_on hc4 hl4 HO.out.fine.down (List.nil_sublist _) hmP)
          clear hc4 hl4 c1 c2
          go_wp2_with fail
          go_roundw
          case rel => exact ⟨k + 1, A', c, _, P, m, by omega, by omega, by go_num, rfl, rfl, HB4.out, HO4.out, hak, by omega, HB4s.out⟩
          case measure => simp [intOf]; omega
        by_cases d4 : (L k).d = 4
        · rw [d4] at c1
          go_wp2_with fail
          refine (heal_any (XO g rg A') (YL g rg) g rg x wr (.inl rfl) HO.out.lane).mono ?_
          rintro e w4 ⟨rfl, hc4, hl4⟩
          have hak : x.heal.asked ≤ ((k + 1 : Nat) : Int) := by simp only [LS.heal]; omega
          have HB4 := hide (HB.out.trans (hc4.toBelow (B := w.heap.size) HXL.out HB.out.size))
          have HB4s := hide (Nat.le_trans HBs.out hc4.size)
          have HO4 := hide (HO.out.lane_on hc4 hl4 HO.out.fine HO.out.sub hmP)
          clear hc4 hl4 c1 c2
          go_wp2_with fail
          go_roundw
          case rel => exact ⟨k + 1, A', c, _, P, m, by omega, by omega, by go_num, rfl, rfl, HB4.out, HO4.out, hak, by omega, HB4s.out⟩
          case measure => simp [intOf]; omega
        · go_wp2_with fail
          go_roundw
          case rel => exact ⟨k + 1, A', c, x, P, m, by omega, by omega, by go_num, rfl, rfl, HB.out, HO.out, by omega, by omega, HBs.out⟩
          case measure => simp [intOf]; omega
      · go_wp2_with fail
        go_ret
        exact ⟨rfl, hbel⟩
    · go_wp2_with fail
      go_ret
      exact ⟨rfl, hbel⟩

/-! ### The row -/
set_option maxRecDepth 100000 in
theorem laneOrder_lifted (os : Os) (started : os.Started) (H : Type) (enc : TypeId × Value → H) :
    ReturnsInHanded {} Try.checked os 4 .any (Rows.laneOrderSpec.pre6 enc Try.prog Try.f4 Rows.laneOrderRow.domain false) (Rows.laneOrderSpec.post enc Try.prog Try.f4 false true false false) := by
  refine returnsInHanded_of_change_sized (C := Try.checked) own started (by kernel_rfl) Try.func4
    (ChangeSpec.witness6 (enc := enc) (C := Try.checked) false ⟨#[], #[.int .i64 0, .slice none 0 0], []⟩ 8 (by kernel_rfl) (by kernel_rfl) (by kernel_rfl) (by kernel_rfl)) ?_
  intro W base args ds gs before hval0 hW hcnd hsz0 _
  have hval : ∀ (j : Nat) t v, Try.f4.params[j]? = some t → args[j]? = some v → Value.okWide Try.prog W .any base t v := hval0
  have hW' : DataW.Whole enc Try.prog Try.f4.params.toList Rows.laneOrderSpec.vars false W args.toList ds gs before := hW
  have hlen : args.toList.length = Try.f4.params.toList.length ∧ ds.length = Try.f4.params.toList.length := by
    obtain ⟨p, q, hA, _⟩ := hW'
    exact trodAll_len _ _ _ _ hA
  have hsz : (DataW.weightsEach Try.prog (Try.f4.params.toList ++ Rows.laneOrderSpec.plain.varTypes Try.prog) (ds ++ gs)).all (· ≤ reachBytes) = true := hsz0
  rw [Try.params4] at hval hlen hsz
  obtain ⟨p0, p1, rfl⟩ := args2 args hlen.1
  obtain ⟨d0, d1, rfl⟩ := list2 ds hlen.2
  obtain rfl : gs = [] := by
    obtain ⟨p, q, _, hV, _⟩ := hW'
    exact (trodVars_none hV).1
  obtain ⟨_, _, hA, _⟩ := id hW'
  rw [Try.params4] at hA
  obtain ⟨_, _, hT0, hA, _⟩ := hA
  obtain ⟨_, _, hT1, hA, _⟩ := hA
  obtain ⟨room, rfl, hroom⟩ := open_i64 (hval 0 3 p0 rfl rfl)
  obtain ⟨A, n, cap, L, rfl, hl⟩ := open_lsteps (j := 1) (hval 1 36 p1 rfl rfl) hT1 hsz rfl rfl
  refine (laneOrder_any room A n cap L W hroom hl).mono fun e W' ⟨he, hb⟩ => ?_
  subst he
  have hp : ∀ t ∈ Try.f4.params.toList, Try.prog.readableRec t = true ∧ t < Try.prog.types.size := by
    rw [Try.params4]
    intro t ht
    simp at ht
    rcases ht with rfl | rfl
    all_goals first | exact readable3 | exact readable36
  have hpost := law_post (enc := enc) (P := Try.prog) (f := Try.f4) (s := Rows.laneOrderSpec) (tb := 4) (W' := W') laidOut hW' rfl (by kernel_rfl) Try.underlying4 hp ⟨rfl, rfl, rfl⟩ hb
  exact ⟨_, rfl, hpost⟩

theorem laneOrder_holds : Rows.LaneOrderSaid :=
  OpenClaim.holds_of_wide 4 Try.f4 rfl rfl rfl rfl rfl rfl rfl ⟨rfl, rfl, rfl, rfl, rfl⟩ rfl rfl rfl rfl rfl (by kernel_rfl) Try.func4 (by kernel_rfl)
    (of_decide_eq_true (by kernel_rfl)) (by unfold Func.isWrapper; first | (rw [if_pos (by decide +kernel)]; kernel_rfl) | (rw [if_neg (by decide +kernel)]; exact ⟨rfl, rfl⟩))
    (fun os started H enc _ => laneOrder_lifted os started H enc)
#print axioms laneOrder_holds
end Go.Proofs.Ytekljcgljoianaa

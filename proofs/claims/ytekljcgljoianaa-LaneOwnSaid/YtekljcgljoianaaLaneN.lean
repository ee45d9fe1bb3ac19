/-
  A lane: Put, of a row that another may turn later.
-/
import Derived.Test.YtekljcgljoianaaLaneM
import Derived.Test.YtekljcgljoianaaLaneL
namespace Go.Proofs.Ytekljcgljoianaa
open Go.RowKit Go.WideShapes Go.ChangeShapes
set_option linter.unusedVariables false

set_option maxRecDepth 100000 in
set_option maxHeartbeats 2000000 in
theorem put_from (X Y Z : Nat → Prop) [Sub Y X] [Sub Y Z] (g rg : Nat) (x : LS) (A : Option Addr) (n cap : Nat) (b : List UInt8) (w : World) (hX : Y g) (hXr : Y rg) (hXlt : ∀ k, X k → k < w.heap.size) (hf : x.fine) (hK : x.asked < 1000000) (hl : LaneAt w X g rg x)
    (hv : RowAt w Z (.slice A n cap) b) (hb : n ≤ 140737488355328) :
    Calls Try.prog 12 #[.pointer (some ⟨g, 0, none⟩), .slice A n cap] w fun e w' => e = .returned (.int .i64 x.putE) ∧ Chg Y w w' ∧ LaneAt w' X g rg (x.put b) := by
  obtain ⟨m2, m3, m4, m5, m6, z⟩ := hl.cells
  have z2 := z 2; have z4 := z 4; have z6 := z 6
  obtain ⟨⟨r0, r1⟩, f0, f1, f2, f3, f4⟩ := hf
  have b0 : 0 ≤ x.asked := by omega
  have l0 : 0 ≤ x.lost := f3
  have l1 : x.lost ≤ 1000000 := by omega
  obtain ⟨first, h1, h2, h3, h4⟩ := hl
  have m0 : w.cell? ⟨g, 0, none⟩ = some (.slice (some ⟨rg, 0, none⟩) x.room x.room) := cell_of_row w g 0 _ 49 (0, 0) h1
  have m1 : w.cell? ⟨g, 1, none⟩ = some (.int .i64 first) := cell_of_row w g 1 _ 49 (0, 0) h1
  have H1 := hide h1; have H4 := hide h4; have HV := hide hv
  have HL : Hid (LaneAt w X g rg x) := ⟨first, h1, h2, h3, h4⟩
  clear h1 h4 hv z
  obtain ⟨room, cut, asked, got, lost, Q⟩ := x
  simp only at r0 r1 f0 f1 f2 f3 f4 b0 l0 l1 m0 m1 m2 m3 m4 m5 m6 h3 hK
  clear f1 f2 f3 f4
  by_cases hcut : cut = true
  · subst hcut
    go_enter Try.func12, Try.ntmps12
    go_wp2_with fail
    go_ret
    have e1 : LS.put ⟨room, true, asked, got, lost, Q⟩ b = ⟨room, true, asked + 1, got, lost + 1, Q⟩ := rfl
    have e2 : LS.putE ⟨room, true, asked, got, lost, Q⟩ = 7 := rfl
    rw [e1, e2]
    exact ⟨rfl, ((Chg.refl Y w).setCell hX _).setCell hX _, (HL.out.set (Y := Y) hX 4 (.int .i64 (asked + 1)) ⟨room, true, asked + 1, got, lost, Q⟩ (fun _ => rfl) rfl rfl).set hX 6 _ _ (fun _ => rfl) rfl rfl⟩
  obtain rfl : cut = false := by simpa using hcut
  clear hcut
  by_cases hfull : Q.length = room
  · have hfull' : (Q.length : Int) = (room : Int) := by omega
    go_enter Try.func12, Try.ntmps12
    go_wp2_with fail
    go_region
    go_wp2_with fail
    go_ret
    have e1 : LS.put ⟨room, false, asked, got, lost, Q⟩ b = ⟨room, false, asked + 1, got, lost + 1, Q⟩ := by simp [LS.put, hfull]
    have e2 : LS.putE ⟨room, false, asked, got, lost, Q⟩ = 3 := by simp [LS.putE, hfull]
    rw [e1, e2]
    exact ⟨rfl, (((Chg.refl Y w).setCell hX _).drew).setCell hX _, ((HL.out.set (Y := Y) hX 4 (.int .i64 (asked + 1)) ⟨room, false, asked + 1, got, lost, Q⟩ (fun _ => rfl) rfl rfl).chg (Chg.refl Y _).drew rfl rfl).set hX 6 _ _ (fun _ => rfl) rfl rfl⟩
  have hroom : Q.length < room := by omega
  have hfull' : ¬ (Q.length : Int) = (room : Int) := by omega
  obtain ⟨hn, hn63, hsrc⟩ := HV.out.src
  subst hn
  have hmk := fun (u : World) => run_make_row' (P := Try.prog) 29 5 (.int .u8 0) 1 Try.underlying29 (by kernel_rfl) rfl .i64 .i64 b.length (by omega) (by omega) u
  have HSRC := hide hsrc
  clear hsrc
  go_enter Try.func12, Try.ntmps12
  go_wp2_with fail
  refine wp_region_class (by kernel_rfl) (by kernel_rfl) (fun C hC hS hN => ?_)
  have hgl : g < w.heap.size := hXlt g (Sub.sub _ hX)
  have hrl : rg < w.heap.size := hXlt rg (Sub.sub _ hXr)
  have HL1 := hide (HL.out.set (Y := Y) hX 4 (.int .i64 (asked + 1)) ⟨room, false, asked + 1, got, lost, Q⟩ (fun _ => rfl) rfl rfl)
  have hW : (w.setCell ⟨g, 4, none⟩ (.int .i64 (asked + 1))).heap.size = w.heap.size := by simp
  obtain ⟨n2, -⟩ := HL1.out.cells
  have n0 : (w.setCell ⟨g, 4, none⟩ (.int .i64 (asked + 1))).cell? ⟨g, 0, none⟩ = some (.slice (some ⟨rg, 0, none⟩) room room) := by
    obtain ⟨first', q1, -⟩ := HL1.out
    exact cell_of_row _ g 0 _ 49 (0, 0) q1
  have c0 : ∀ (u : Of C), u.w.cell? ⟨g, 0, none⟩ = some (.slice (some ⟨rg, 0, none⟩) room room) := fun u => ((hC _ u.ok).cell (by rw [hW]; exact hgl)).trans n0
  have c2 : ∀ (u : Of C), u.w.cell? ⟨g, 2, none⟩ = some (.int .i64 Q.length) := fun u => ((hC _ u.ok).cell (by rw [hW]; exact hgl)).trans n2
  clear hS
  repeat (go_big_quiet_step (fail))
  refine wpQuiet_nil ?_
  intro u hu
  have hcu : Chg Y w u := ((Chg.refl Y w).setCell hX _).trans (Chg.below (X := Y) hu)
  have HLu := hide (HL1.out.chg (Chg.below (X := Y) hu) (hu.block _ (by rw [hW]; exact hgl)) (hu.block _ (by rw [hW]; exact hrl)))
  have hsu : w.heap.size ≤ u.heap.size := by have := hu.size; rw [hW] at this; exact this
  have HVu := hide (HV.out.chg hcu)
  have HCU := hide hcu
  clear c0 c2 n0 n2 hC hN hu hcu m0 m1 m2 m3 m4 m5 m6 z2 z4 z6 HL H1 H4 HSRC HL1
  obtain ⟨first, q1, q2, q3, rc, q4, q5, q6⟩ := HLu.out
  obtain ⟨hn', hn63', hsrc'⟩ := (HVu.out.chg ((Chg.refl Y u).alloc (.cells (madeCells #[.int .u8 0] b.length) 5))).src
  have HSRC := hide hsrc'
  have HQ1 := hide q1; have HQ4 := hide q4; have HQ6 := hide q6
  clear q1 q4 q6 hsrc'
  simp only at q3 q5
  have ehead : (u.alloc (.cells (madeCells #[.int .u8 0] b.length) 5)).heap[u.heap.size]? = some (.cells (madeCells #[.int .u8 0] b.length).toList.toArray 5 (0, 0)) := by
    rw [Array.toArray_toList]; exact heap_alloc_new _ _
  have HHead := hide ehead; clear ehead
  have hlenC : (bcells b).length = Nat.min b.length b.length := by rw [bcells_length]; exact (Nat.min_self _).symm
  have hlenD : 0 + (bcells b).length ≤ (madeCells #[.int .u8 0] b.length).toList.length := by rw [bcells_length]; simp [madeCells]
  go_wp2_with (refine wpList_copy_splice rfl (.tmp 43) (.tmp 44) 29 29 rfl 5 Try.underlying29 (by kernel_rfl) (some ⟨u.heap.size, 0, none⟩) A b.length b.length b.length cap rfl rfl u.heap.size 0 _ 5 HHead.out (bcells b) hlenC (fun h0 => ⟨rfl, HSRC.out h0⟩) hlenD (bcells_one b) u.heap.size u ((Below.refl _ _).alloc (Nat.le_refl _) _) (Nat.le_refl _) ?_; intro w4 HG hb4)
  rw [splice_whole _ _ (by rw [bcells_length]; simp [madeCells])] at HG
  have hg4 : g < u.heap.size := by omega
  have hr4 : rg < u.heap.size := by omega
  have p1 := (hb4.block g hg4).trans HQ1.out
  have p4 := (hb4.block rg hr4).trans HQ4.out
  obtain ⟨idx, hidx⟩ : ∃ k, k = (first + Q.length) % room := ⟨_, rfl⟩
  have hidx1 : idx < room := by rw [hidx]; exact Nat.mod_lt _ (by omega)
  have e1 : IntKind.i64.wrap ((first : Int) + Q.length) = (first : Int) + Q.length := IntWalk.i64_in _ ⟨by omega, by omega⟩
  have e2 : Int.tmod ((first : Int) + Q.length) room = (idx : Int) := by rw [hidx, ← tmod_nat]; rfl
  have e3 : (idx : Int) < room := by omega
  have e4 : (room : Int) ≠ 0 := by omega
  have e5 : (0 : Int) ≤ idx := by omega
  have e6 : ((first : Int) + Q.length) % room = (idx : Int) := by rw [hidx]; simp
  obtain ⟨old, hold⟩ : ∃ v, rc[idx]? = some v := ⟨_, Array.getElem?_eq_getElem (by omega)⟩
  have z2 : w4.frozen? ⟨g, 2, none⟩ = false := frozen_of_row w4 g 2 _ 49 p1
  have zr : w4.frozen? ⟨rg, idx, none⟩ = false := frozen_of_row w4 rg idx _ 29 p4
  have m0 : w4.cell? ⟨g, 0, none⟩ = some (.slice (some ⟨rg, 0, none⟩) room room) := cell_of_row w4 g 0 _ 49 (0, 0) p1
  have m1 : w4.cell? ⟨g, 1, none⟩ = some (.int .i64 first) := cell_of_row w4 g 1 _ 49 (0, 0) p1
  have m2 : w4.cell? ⟨g, 2, none⟩ = some (.int .i64 Q.length) := cell_of_row w4 g 2 _ 49 (0, 0) p1
  have mr : w4.cell? ⟨rg, idx, none⟩ = some old := by rw [cell_of_row w4 rg idx rc 29 (0, 0) p4]; exact hold
  have P1 := hide p1; have P4 := hide p4
  have HB4 := hide hb4
  have hlQ : Q.length ≤ 1000 := by omega
  have HIDX := hide hidx
  clear p1 p4 hb4 hold HHead hidx HSRC
  refine wp_region_tail 21 (by kernel_rfl) (by kernel_rfl) (fun y hy => ?_)
  have d0 : y.cell? ⟨g, 0, none⟩ = some (.slice (some ⟨rg, 0, none⟩) room room) := by rw [hy]; exact m0
  have d1 : y.cell? ⟨g, 1, none⟩ = some (.int .i64 first) := by rw [hy]; exact m1
  have d2 : y.cell? ⟨g, 2, none⟩ = some (.int .i64 Q.length) := by rw [hy]; exact m2
  have dr : y.cell? ⟨rg, idx, none⟩ = some old := by rw [hy]; exact mr
  have y2 : y.frozen? ⟨g, 2, none⟩ = false := by rw [hy]; exact z2
  have yr : y.frozen? ⟨rg, idx, none⟩ = false := by rw [hy]; exact zr
  have HU : Hid (y.heap = w4.heap) := by show y.heap = w4.heap; rw [hy]; rfl
  have HWY := hide (show Chg Y w4 y by rw [hy]; exact (Chg.refl _ _).drew)
  have HC4 := hide (HCU.out.trans ((Chg.below (X := Y) HB4.out).trans HWY.out))
  have hne : rg ≠ g := fun e => h2 e.symm
  clear hy m0 m1 m2 mr z2 zr
  simp only [List.take_succ_cons, List.take_zero, List.drop_succ_cons, List.drop_zero]
  repeat (first | go_big_quiet_skip | (go_big_quiet_want; go_big_quiet_op; go_big_quiet_on))
  refine wpQuiet_nil ?_
  go_wp2_with fail
  go_ret
  have e1 : LS.put ⟨room, false, asked, got, lost, Q⟩ b = ⟨room, false, asked + 1, got, lost, Q ++ [b]⟩ := by simp [LS.put, hfull]
  have e2 : LS.putE ⟨room, false, asked, got, lost, Q⟩ = 0 := by simp [LS.putE, hfull]
  rw [e1, e2]
  have HC5 := hide ((HC4.out.setCell (i := idx) hXr (.slice (some ⟨u.heap.size, 0, none⟩) b.length b.length)).setCell (i := 2) hX (.int .i64 ((Q.length : Int) + 1)))
  have HC6 := hide (((Chg.refl Y y).setCell (i := idx) hXr (.slice (some ⟨u.heap.size, 0, none⟩) b.length b.length)).setCell (i := 2) hX (.int .i64 ((Q.length : Int) + 1)))
  have hnX : ¬ X u.heap.size := fun hx => by have := hXlt _ hx; omega
  have hyg : y.heap[u.heap.size]? = some (.cells (bcells b).toArray 5 (0, 0)) := by rw [HU.out]; exact HG.out
  have hR : RowAt y X (.slice (some ⟨u.heap.size, 0, none⟩) b.length b.length) b := RowAt.fresh hnX hn63 hyg
  refine ⟨rfl, HC5.out, first, ?_, h2, q3, rc.setIfInBounds idx (.slice (some ⟨u.heap.size, 0, none⟩) b.length b.length), ?_, by simpa using q5, fun i hi => ?_⟩
  · have := heap_setCell_same (y.setCell ⟨rg, idx, none⟩ (.slice (some ⟨u.heap.size, 0, none⟩) b.length b.length)) g 2 _ 49 (.int .i64 ((Q.length : Int) + 1)) (by rw [Below.heap_setCell _ _ _ _ h2, HU.out]; exact P1.out)
    rw [this]
    simp [laneCells]
  · rw [Below.heap_setCell _ _ _ _ hne]
    exact heap_setCell_same y rg idx _ 29 _ (by rw [HU.out]; exact P4.out)
  · have hic : i < Q.length + 1 := by simpa using hi
    show ∃ v, (rc.setIfInBounds idx (.slice (some ⟨u.heap.size, 0, none⟩) b.length b.length))[(first + i) % room]? = some v ∧ RowAt _ X v (Q ++ [b])[i]
    by_cases hlast : i = Q.length
    · subst hlast
      refine ⟨.slice (some ⟨u.heap.size, 0, none⟩) b.length b.length, ?_, ?_⟩
      · rw [← HIDX.out, Array.getElem?_setIfInBounds_self_of_lt (by omega)]
      · simpa using hR.chg HC6.out
    · have hi' : i < Q.length := by omega
      obtain ⟨v, k1, k2⟩ := HQ6.out i hi'
      refine ⟨v, ?_, ?_⟩
      · rw [Array.getElem?_setIfInBounds_ne ?_]
        · exact k1
        · rw [HIDX.out, ring_idx first i room q3 (by omega), ring_idx first Q.length room q3 (by omega)]
          split <;> split <;> omega
      · rw [List.getElem_append_left hi']
        exact (k2.chg ((Chg.below (X := Y) HB4.out).trans HWY.out)).chg HC6.out
end Go.Proofs.Ytekljcgljoianaa

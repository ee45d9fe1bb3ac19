/-
  The address that a text is, by the reference.
-/
import Derived.Test.YtgklokpjfnpabaaMacG
namespace Go.Proofs.Ytgklokpjfnpabaa
open Go.RowKit
set_option linter.unusedVariables false

/-! ### The reference's Parse -/
theorem refParse_size (s : ByteArray) (w : World) (h : s.size ≠ 17) (h' : s.size ≤ 9223372036854775807) :
    Calls Try.prog 24 #[.string s] w fun e w' => e = .returned (.tuple #[.agg #[.int .u8 0, .int .u8 0, .int .u8 0, .int .u8 0, .int .u8 0, .int .u8 0], .int .i64 2]) ∧ Below w.heap.size w w' := by
  have hd : ((s.size : Int) == 17) = false := by rw [beq_eq_false_iff_ne]; omega
  have hd' : ((s.size : Int) != 17) = true := by rw [bne_iff_ne]; omega
  clear h
  go_enter Try.func24, Try.ntmps24
  go_wp2
  refine bodyPost_ret (v := .tuple #[.agg #[.int .u8 0, .int .u8 0, .int .u8 0, .int .u8 0, .int .u8 0, .int .u8 0], .int .i64 2]) (by simp [results, Try.results24, go_sem]) rfl ⟨rfl, (by repeat' (first | with_reducible exact Below.refl _ _ | with_reducible assumption | with_reducible refine Below.setCell ?_ ?_ _ | with_reducible refine Below.alloc ?_ ?_ _ | with_reducible refine below_dn ?_ _ | with_reducible refine Below.drew ?_ | omega | (simp; done) | (simp; omega)))⟩

set_option maxHeartbeats 2000000 in
theorem refParse_any (s : ByteArray) (w : World) (h : s.size = 17) :
    Calls Try.prog 24 #[.string s] w fun e w' => e = .returned (.tuple #[.agg #[.int .u8 (pm s 0), .int .u8 (pm s 1), .int .u8 (pm s 2), .int .u8 (pm s 3), .int .u8 (pm s 4), .int .u8 (pm s 5)], .int .i64 (pe s)]) ∧ Below w.heap.size w w' := by
  have hd' : ((s.size : Int) != 17) = false := by rw [h]; rfl
  have HSZ := hide h
  have hsz : s.size ≤ 17 := by omega
  clear h
  go_enter Try.func24, Try.ntmps24
  go_wp2_with fail
  go_loopw [5] (fun i wr => ∃ k : Nat, k ≤ 6 ∧ i = .int .i64 k ∧ Below w.heap.size w wr ∧ wr.heap[w.heap.size]? = some (.cells (mcs s 0) 23 (0, 0)) ∧ wr.heap[w.heap.size + 1]? = some (.cells (mcs s k) 23 (0, 0)) ∧ ∀ j : Nat, j < k → good s j = true)
    (fun i _ => 6 - (intOf i).toNat)
  case atStart => exact ⟨0, by omega, rfl, (by repeat' (first | with_reducible exact Below.refl _ _ | with_reducible assumption | with_reducible refine Below.setCell ?_ ?_ _ | with_reducible refine Below.alloc ?_ ?_ _ | with_reducible refine below_dn ?_ _ | with_reducible refine Below.drew ?_ | omega | (simp; done) | (simp; omega))), by rw [mcs_zero]; exact heap_alloc2_old _ _ _, by rw [mcs_zero]; exact heap_alloc2_new _ _ _, fun j hj => by omega⟩
  case round =>
    obtain ⟨k, hk, rfl, hbel, hb0, hb1, hgood⟩ := hrel
    have HG := hide hgood; clear hgood
    have HB0 := hide hb0; have HB1 := hide hb1; clear hb0 hb1
    have hsw : w.heap.size + 1 < wr.heap.size := by
      have h1 := HB1.out
      rcases Nat.lt_or_ge (w.heap.size + 1) wr.heap.size with h2 | h2
      · exact h2
      · rw [Array.getElem?_eq_none h2] at h1; cases h1
    by_cases hlt : k < 6
    · have hi1 := idx_str s (3 * k) (by have := HSZ.out; omega) (3 * (k : Int)) (by omega)
      have hi2 := idx_str s (3 * k + 1) (by have := HSZ.out; omega) (3 * (k : Int) + 1) (by omega)
      have hba := sb_bound s (3 * k)
      have hbb := sb_bound s (3 * k + 1)
      have hba' := hexv_bound (sb s (3 * k))
      have hbb' := hexv_bound (sb s (3 * k + 1))
      have V1 := hide (fun u => refValue_any (sb s (3 * k)) u hba)
      have V2 := hide (fun u => refValue_any (sb s (3 * k + 1)) u hbb)
      cases hg : good s k
      · have HP := hide (parsed_not s k hlt hg)
        have hbad := bad_cases s k hg
        clear hg
        rcases hbad with g1 | ⟨g1, g2⟩ | ⟨g1, g2, g3, g4⟩
        · go_wp2_with fail
          refine (V1.out _).mono ?_
          rintro e u1 ⟨rfl, hu1⟩
          go_wp2_with fail
          refine (V2.out _).mono ?_
          rintro e u ⟨rfl, hu2⟩
          have hu : Below wr.heap.size wr u := hu1.trans (hu2.mono hu1.size)
          have hbu : Below w.heap.size w u := hbel.trans (hu.mono (by omega))
          have hc0 : ∀ o, u.cell? ⟨w.heap.size, o, none⟩ = (mcs s 0)[o]? := fun o => (hu.cell (by show w.heap.size < _; omega)).trans (cell_of_row wr _ o _ 23 (0, 0) HB0.out)
          have hz0 : ∀ o, u.frozen? ⟨w.heap.size, o, none⟩ = false := fun o => (hu.frozen (by show w.heap.size < _; omega)).trans (frozen_of_row wr _ o _ 23 HB0.out)
          have hc1 : u.cell? ⟨w.heap.size + 1, k, none⟩ = some (.int .u8 0) := ((hu.cell (by show w.heap.size + 1 < _; omega)).trans (cell_of_row wr _ k _ 23 (0, 0) HB1.out)).trans (mcs_get s k hlt)
          have hz1 : u.frozen? ⟨w.heap.size + 1, k, none⟩ = false := (hu.frozen (by show w.heap.size + 1 < _; omega)).trans (frozen_of_row wr _ k _ 23 HB1.out)
          rw [mcs_zero] at hc0
          go_wp2_with fail
          refine bodyPost_ret (v := .tuple #[.agg #[.int .u8 0, .int .u8 0, .int .u8 0, .int .u8 0, .int .u8 0, .int .u8 0], .int .i64 2]) (by simp [results, Try.results24, go_sem, hc0]) rfl ⟨by simp only [pm, pe, HP.out]; rfl, (by repeat' (first | with_reducible exact Below.refl _ _ | with_reducible assumption | with_reducible refine Below.setCell ?_ ?_ _ | with_reducible refine Below.alloc ?_ ?_ _ | with_reducible refine below_dn ?_ _ | with_reducible refine Below.drew ?_ | omega | (simp; done) | (simp; omega)))⟩
        · go_wp2_with fail
          refine (V1.out _).mono ?_
          rintro e u1 ⟨rfl, hu1⟩
          go_wp2_with fail
          refine (V2.out _).mono ?_
          rintro e u ⟨rfl, hu2⟩
          have hu : Below wr.heap.size wr u := hu1.trans (hu2.mono hu1.size)
          have hbu : Below w.heap.size w u := hbel.trans (hu.mono (by omega))
          have hc0 : ∀ o, u.cell? ⟨w.heap.size, o, none⟩ = (mcs s 0)[o]? := fun o => (hu.cell (by show w.heap.size < _; omega)).trans (cell_of_row wr _ o _ 23 (0, 0) HB0.out)
          have hz0 : ∀ o, u.frozen? ⟨w.heap.size, o, none⟩ = false := fun o => (hu.frozen (by show w.heap.size < _; omega)).trans (frozen_of_row wr _ o _ 23 HB0.out)
          have hc1 : u.cell? ⟨w.heap.size + 1, k, none⟩ = some (.int .u8 0) := ((hu.cell (by show w.heap.size + 1 < _; omega)).trans (cell_of_row wr _ k _ 23 (0, 0) HB1.out)).trans (mcs_get s k hlt)
          have hz1 : u.frozen? ⟨w.heap.size + 1, k, none⟩ = false := (hu.frozen (by show w.heap.size + 1 < _; omega)).trans (frozen_of_row wr _ k _ 23 HB1.out)
          rw [mcs_zero] at hc0
          go_wp2_with fail
          refine bodyPost_ret (v := .tuple #[.agg #[.int .u8 0, .int .u8 0, .int .u8 0, .int .u8 0, .int .u8 0, .int .u8 0], .int .i64 2]) (by simp [results, Try.results24, go_sem, hc0]) rfl ⟨by simp only [pm, pe, HP.out]; rfl, (by repeat' (first | with_reducible exact Below.refl _ _ | with_reducible assumption | with_reducible refine Below.setCell ?_ ?_ _ | with_reducible refine Below.alloc ?_ ?_ _ | with_reducible refine below_dn ?_ _ | with_reducible refine Below.drew ?_ | omega | (simp; done) | (simp; omega)))⟩
        · have hi3 := idx_str s (3 * k - 1) (by have := HSZ.out; omega) (3 * (k : Int) - 1) (by omega)
          have g5 : (sb s (3 * k - 1) != 58) = true := by rw [bne, g4]; rfl
          go_wp2_with fail
          refine (V1.out _).mono ?_
          rintro e u1 ⟨rfl, hu1⟩
          go_wp2_with fail
          refine (V2.out _).mono ?_
          rintro e u ⟨rfl, hu2⟩
          have hu : Below wr.heap.size wr u := hu1.trans (hu2.mono hu1.size)
          have hbu : Below w.heap.size w u := hbel.trans (hu.mono (by omega))
          have hc0 : ∀ o, u.cell? ⟨w.heap.size, o, none⟩ = (mcs s 0)[o]? := fun o => (hu.cell (by show w.heap.size < _; omega)).trans (cell_of_row wr _ o _ 23 (0, 0) HB0.out)
          have hz0 : ∀ o, u.frozen? ⟨w.heap.size, o, none⟩ = false := fun o => (hu.frozen (by show w.heap.size < _; omega)).trans (frozen_of_row wr _ o _ 23 HB0.out)
          have hc1 : u.cell? ⟨w.heap.size + 1, k, none⟩ = some (.int .u8 0) := ((hu.cell (by show w.heap.size + 1 < _; omega)).trans (cell_of_row wr _ k _ 23 (0, 0) HB1.out)).trans (mcs_get s k hlt)
          have hz1 : u.frozen? ⟨w.heap.size + 1, k, none⟩ = false := (hu.frozen (by show w.heap.size + 1 < _; omega)).trans (frozen_of_row wr _ k _ 23 HB1.out)
          rw [mcs_zero] at hc0
          go_wp2_with fail
          refine bodyPost_ret (v := .tuple #[.agg #[.int .u8 0, .int .u8 0, .int .u8 0, .int .u8 0, .int .u8 0, .int .u8 0], .int .i64 2]) (by simp [results, Try.results24, go_sem, hc0]) rfl ⟨by simp only [pm, pe, HP.out]; rfl, (by repeat' (first | with_reducible exact Below.refl _ _ | with_reducible assumption | with_reducible refine Below.setCell ?_ ?_ _ | with_reducible refine Below.alloc ?_ ?_ _ | with_reducible refine below_dn ?_ _ | with_reducible refine Below.drew ?_ | omega | (simp; done) | (simp; omega)))⟩
      · have HGD := hide hg
        obtain ⟨g1, g2, g3, g4, g5⟩ := pv_bound s k hg
        clear hg
        unfold pv at g4 g5
        by_cases h0 : 0 < k
        · have hi3 := idx_str s (3 * k - 1) (by have := HSZ.out; omega) (3 * (k : Int) - 1) (by omega)
          have g6 : (sb s (3 * k - 1) != 58) = false := by rw [g3 h0]; rfl
          clear g3
          go_wp2_with fail
          refine (V1.out _).mono ?_
          rintro e u1 ⟨rfl, hu1⟩
          go_wp2_with fail
          refine (V2.out _).mono ?_
          rintro e u ⟨rfl, hu2⟩
          have hu : Below wr.heap.size wr u := hu1.trans (hu2.mono hu1.size)
          have hbu : Below w.heap.size w u := hbel.trans (hu.mono (by omega))
          have hc0 : ∀ o, u.cell? ⟨w.heap.size, o, none⟩ = (mcs s 0)[o]? := fun o => (hu.cell (by show w.heap.size < _; omega)).trans (cell_of_row wr _ o _ 23 (0, 0) HB0.out)
          have hz0 : ∀ o, u.frozen? ⟨w.heap.size, o, none⟩ = false := fun o => (hu.frozen (by show w.heap.size < _; omega)).trans (frozen_of_row wr _ o _ 23 HB0.out)
          have hc1 : u.cell? ⟨w.heap.size + 1, k, none⟩ = some (.int .u8 0) := ((hu.cell (by show w.heap.size + 1 < _; omega)).trans (cell_of_row wr _ k _ 23 (0, 0) HB1.out)).trans (mcs_get s k hlt)
          have hz1 : u.frozen? ⟨w.heap.size + 1, k, none⟩ = false := (hu.frozen (by show w.heap.size + 1 < _; omega)).trans (frozen_of_row wr _ k _ 23 HB1.out)
          rw [mcs_zero] at hc0
          have hor : 16 * hexv (sb s (3 * k)) = hexv (sb s (3 * k)) * 16 := by omega
          go_wp2
          go_roundw
          case rel =>
            have e0 := HB0.out
            have e1 := HB1.out
            have HP := hide hbu
            refine ⟨k + 1, by omega, by go_num, (by repeat' (first | with_reducible exact Below.refl _ _ | with_reducible assumption | with_reducible refine Below.setCell ?_ ?_ _ | with_reducible refine Below.alloc ?_ ?_ _ | with_reducible refine below_dn ?_ _ | with_reducible refine Below.drew ?_ | omega | (simp; done) | (simp; omega))), ?_, ?_, ?_⟩
            · rw [heap_setCell_other _ _ _ _ (by simp)]
              exact (hu.block _ (by omega)).trans e0
            · rw [← mcs_set s k hlt]
              exact heap_setCell_same u _ k _ 23 _ ((hu.block _ (by omega)).trans e1)
            · intro j hj
              rcases Nat.lt_or_ge j k with h1 | h1
              · exact HG.out j h1
              · have e : j = k := by omega
                subst e; exact HGD.out
          case measure => simp [intOf]; omega
        · obtain rfl : k = 0 := by omega
          clear g3 hi1 hi2 V1 V2
          have hi1 := idx_str s 0 (by have := HSZ.out; omega) 0 rfl
          have hi2 := idx_str s 1 (by have := HSZ.out; omega) 1 rfl
          have V1 := hide (fun u => refValue_any (sb s 0) u hba)
          have V2 := hide (fun u => refValue_any (sb s 1) u hbb)
          replace g1 : 0 ≤ hexv (sb s 0) := g1
          replace g2 : 0 ≤ hexv (sb s 1) := g2
          replace g4 : 0 ≤ hexv (sb s 0) * 16 + hexv (sb s 1) := g4
          replace g5 : hexv (sb s 0) * 16 + hexv (sb s 1) < 256 := g5
          replace hba' : -1 ≤ hexv (sb s 0) ∧ hexv (sb s 0) < 16 := hba'
          replace hbb' : -1 ≤ hexv (sb s 1) ∧ hexv (sb s 1) < 16 := hbb'
          go_wp2_with fail
          refine (V1.out _).mono ?_
          rintro e u1 ⟨rfl, hu1⟩
          go_wp2_with fail
          refine (V2.out _).mono ?_
          rintro e u ⟨rfl, hu2⟩
          have hu : Below wr.heap.size wr u := hu1.trans (hu2.mono hu1.size)
          have hbu : Below w.heap.size w u := hbel.trans (hu.mono (by omega))
          have hc0 : ∀ o, u.cell? ⟨w.heap.size, o, none⟩ = (mcs s 0)[o]? := fun o => (hu.cell (by show w.heap.size < _; omega)).trans (cell_of_row wr _ o _ 23 (0, 0) HB0.out)
          have hz0 : ∀ o, u.frozen? ⟨w.heap.size, o, none⟩ = false := fun o => (hu.frozen (by show w.heap.size < _; omega)).trans (frozen_of_row wr _ o _ 23 HB0.out)
          have hc1 : u.cell? ⟨w.heap.size + 1, 0, none⟩ = some (.int .u8 0) := ((hu.cell (by show w.heap.size + 1 < _; omega)).trans (cell_of_row wr _ 0 _ 23 (0, 0) HB1.out)).trans (mcs_get s 0 hlt)
          have hz1 : u.frozen? ⟨w.heap.size + 1, 0, none⟩ = false := (hu.frozen (by show w.heap.size + 1 < _; omega)).trans (frozen_of_row wr _ 0 _ 23 HB1.out)
          rw [mcs_zero] at hc0
          have hor : 16 * hexv (sb s 0) = hexv (sb s 0) * 16 := by omega
          go_wp2
          go_roundw
          case rel =>
            have e0 := HB0.out
            have e1 := HB1.out
            have HP := hide hbu
            refine ⟨0 + 1, by omega, by go_num, (by repeat' (first | with_reducible exact Below.refl _ _ | with_reducible assumption | with_reducible refine Below.setCell ?_ ?_ _ | with_reducible refine Below.alloc ?_ ?_ _ | with_reducible refine below_dn ?_ _ | with_reducible refine Below.drew ?_ | omega | (simp; done) | (simp; omega))), ?_, ?_, ?_⟩
            · rw [heap_setCell_other _ _ _ _ (by simp)]
              exact (hu.block _ (by omega)).trans e0
            · rw [← mcs_set s 0 hlt]
              exact heap_setCell_same u _ 0 _ 23 _ ((hu.block _ (by omega)).trans e1)
            · intro j hj
              rcases Nat.lt_or_ge j 0 with h1 | h1
              · exact HG.out j h1
              · have e : j = 0 := by omega
                subst e; exact HGD.out
          case measure => simp [intOf]
    · obtain rfl : k = 6 := by omega
      have HP := hide (parsed_iff s HSZ.out HG.out)
      have hc0 : ∀ o, wr.cell? ⟨w.heap.size, o, none⟩ = (mcs s 0)[o]? := fun o => cell_of_row wr _ o _ 23 (0, 0) HB0.out
      have hz0 : ∀ o, wr.frozen? ⟨w.heap.size, o, none⟩ = false := fun o => frozen_of_row wr _ o _ 23 HB0.out
      have hc1 : ∀ o, wr.cell? ⟨w.heap.size + 1, o, none⟩ = (mcs s 6)[o]? := fun o => cell_of_row wr _ o _ 23 (0, 0) HB1.out
      rw [mcs_zero] at hc0
      rw [mcs_six] at hc1
      go_wp2_with fail
      refine bodyPost_ret (v := .tuple #[.agg #[.int .u8 (pv s 0), .int .u8 (pv s 1), .int .u8 (pv s 2), .int .u8 (pv s 3), .int .u8 (pv s 4), .int .u8 (pv s 5)], .int .i64 0]) (by simp [results, Try.results24, go_sem, hc0]) rfl ⟨by simp only [pm, pe, HP.out, if_true], (by repeat' (first | with_reducible exact Below.refl _ _ | with_reducible assumption | with_reducible refine Below.setCell ?_ ?_ _ | with_reducible refine Below.alloc ?_ ?_ _ | with_reducible refine below_dn ?_ _ | with_reducible refine Below.drew ?_ | omega | (simp; done) | (simp; omega)))⟩
end Go.Proofs.Ytgklokpjfnpabaa

/-
  The reference's value of a sign.
-/
import Derived.Test.YtgklokpjfnpabaaMacE
import Derived.Deep.RegionWith
namespace Go.Proofs.Ytgklokpjfnpabaa
open Go.RowKit
set_option linter.unusedVariables false

theorem convert1 (c : Int) (h : 0 ≤ c ∧ c < 256) (g : Nat) (w : World) (hc : w.cell? ⟨g, 0, none⟩ = some (.int .u8 c)) : (convert 39 9 (.slice (some ⟨g, 0, none⟩) 1 1)).run Try.prog w = .ok (.string ⟨#[UInt8.ofNat c.toNat]⟩) w := by
  refine run_convert_bytes_back w 39 9 5 ⟨g, 0, none⟩ 1 [UInt8.ofNat c.toNat] Try.underlying39 Try.underlying5 Try.underlying9 (fun j hj => ?_)
  simp at hj
  subst hj
  have e : ((UInt8.ofNat c.toNat).toNat : Int) = c := by rw [UInt8.toNat_ofNat']; omega
  simp only [List.getElem_cons_zero, e]
  simpa [Addr.add] using hc

theorem fig_eq (c : Int) (h : 0 ≤ c ∧ c < 256) (n : Int) : ([fig n] == [UInt8.ofNat c.toNat]) = decide (((fig n).toNat : Int) = c) := by
  rw [Bool.eq_iff_iff, decide_eq_true_eq]
  simp only [beq_iff_eq, List.cons.injEq, and_true]
  constructor
  · intro e; rw [e, UInt8.toNat_ofNat']; omega
  · intro e; subst e; simp

set_option maxHeartbeats 1000000 in
theorem refValue_any (c : Int) (w : World) (h : 0 ≤ c ∧ c < 256) :
    Calls Try.prog 28 #[.int .u8 c] w fun e w' => e = .returned (.int .i64 (hexv c)) ∧ Below w.heap.size w w' := by
  have hcv := convert1 c h
  have HF := hide (fig_hexv c h)
  have HN := hide (fig_none c h)
  have HE := hide (fig_eq c h)
  have HFig := hide (fun (n : Int) (u : World) (h0 : 0 ≤ n) (h1 : n < 16) => figure_any n u h0 h1)
  clear h
  generalize UInt8.ofNat c.toNat = b at *
  go_enter Try.func28, Try.ntmps28
  go_wp2_with fail
  go_loopw [3] (fun i wr => ∃ k : Nat, k ≤ 16 ∧ i = .int .i64 k ∧ Below w.heap.size w wr ∧ ∀ j : Nat, j < k → ((fig j).toNat : Int) ≠ c)
    (fun i _ => 16 - (intOf i).toNat)
  case atStart => exact ⟨0, by omega, rfl, Below.refl _ _, fun j hj => by omega⟩
  case round =>
    obtain ⟨k, hk, rfl, hbel, hno⟩ := hrel
    have HNO := hide hno; clear hno
    have hsz := hbel.size
    by_cases hlt : k < 16
    · have K := hide (fun u => HFig.out (k : Int) u (by omega) (by omega))
      have he := HE.out (k : Int)
      cases hd : decide (((fig k).toNat : Int) = c)
      · rw [hd] at he
        have hne := of_decide_eq_false hd
        have HNE := hide hne
        clear hd hne
        go_wp2_with fail
        go_region_with ((go_at_call 25; refine (K.out _).mono ?_; rintro e w' ⟨rfl, rfl⟩))
        all_goals
          go_wp2
          go_roundw
          case rel => exact ⟨k + 1, by omega, by go_num, (by repeat (first | exact Below.refl _ _ | assumption | refine Below.alloc ?_ (by first | omega | (simp <;> omega)) _ | refine below_dn ?_ _ | refine Below.drew ?_)), fun j hj => by
            rcases Nat.lt_or_ge j k with h1 | h1
            · exact HNO.out j h1
            · have e : j = k := by omega
              subst e; exact HNE.out⟩
          case measure => simp [intOf]; omega
      · rw [hd] at he
        have hxx := HF.out k hlt HNO.out (of_decide_eq_true hd)
        have HXX := hide hxx
        clear hd hxx
        go_wp2_with fail
        go_region_with ((go_at_call 25; refine (K.out _).mono ?_; rintro e w' ⟨rfl, rfl⟩))
        all_goals
          go_wp2
          go_ret
          exact ⟨by rw [HXX.out]; rfl, (by repeat (first | exact Below.refl _ _ | assumption | refine Below.alloc ?_ (by first | omega | (simp <;> omega)) _ | refine below_dn ?_ _ | refine Below.drew ?_))⟩
    · obtain rfl : k = 16 := by omega
      have hxx := hide (HN.out HNO.out)
      go_wp2
      go_ret
      exact ⟨by rw [hxx.out]; rfl, hbel⟩
end Go.Proofs.Ytgklokpjfnpabaa

/-
  Texts and addresses are one another's: plain, and Parse at every text.
-/
import Derived.Test.YtgklokpjfnpabaaMacH
namespace Go.Proofs.Ytgklokpjfnpabaa
open Go.RowKit
set_option linter.unusedVariables false

theorem pm_no (s : ByteArray) (h : parsed s = false) (i : Nat) : pm s i = 0 := by unfold pm; rw [h]; rfl
theorem pe_no (s : ByteArray) (h : parsed s = false) : pe s = 2 := by unfold pe; rw [h]; rfl

theorem parse_all (s : ByteArray) (w : World) (h : s.size ≤ 9223372036854775807) :
    Calls Try.prog 23 #[.string s] w fun e w' => e = .returned (.tuple #[.agg #[.int .u8 (pm s 0), .int .u8 (pm s 1), .int .u8 (pm s 2), .int .u8 (pm s 3), .int .u8 (pm s 4), .int .u8 (pm s 5)], .int .i64 (pe s)]) ∧ Below w.heap.size w w' := by
  by_cases hs : s.size = 17
  · exact parse_any s w hs
  · have hp := parsed_size s hs
    rw [pm_no s hp, pm_no s hp, pm_no s hp, pm_no s hp, pm_no s hp, pm_no s hp, pe_no s hp]
    exact parse_size s w hs h
theorem refParse_all (s : ByteArray) (w : World) (h : s.size ≤ 9223372036854775807) :
    Calls Try.prog 24 #[.string s] w fun e w' => e = .returned (.tuple #[.agg #[.int .u8 (pm s 0), .int .u8 (pm s 1), .int .u8 (pm s 2), .int .u8 (pm s 3), .int .u8 (pm s 4), .int .u8 (pm s 5)], .int .i64 (pe s)]) ∧ Below w.heap.size w w' := by
  by_cases hs : s.size = 17
  · exact refParse_any s w hs
  · have hp := parsed_size s hs
    rw [pm_no s hp, pm_no s hp, pm_no s hp, pm_no s hp, pm_no s hp, pm_no s hp, pe_no s hp]
    exact refParse_size s w hs h

theorem good_all (s : ByteArray) (h : parsed s = true) : s.size = 17 ∧ ∀ i : Nat, i < 6 → good s i = true := by
  simp only [parsed, Bool.and_eq_true, decide_eq_true_eq] at h
  obtain ⟨⟨⟨⟨⟨⟨h0, g0⟩, g1⟩, g2⟩, g3⟩, g4⟩, g5⟩ := h
  refine ⟨h0, fun i hi => ?_⟩
  rcases (show i = 0 ∨ i = 1 ∨ i = 2 ∨ i = 3 ∨ i = 4 ∨ i = 5 by omega) with rfl | rfl | rfl | rfl | rfl | rfl <;> assumption
theorem pm_bound (s : ByteArray) (i : Nat) (hi : i < 6) : 0 ≤ pm s i ∧ pm s i < 256 := by
  cases h : parsed s
  · rw [pm_no s h]; omega
  · have := pv_bound s i ((good_all s h).2 i hi)
    unfold pm
    rw [h]
    exact ⟨this.2.2.2.1, this.2.2.2.2⟩
theorem pm_yes (s : ByteArray) (h : parsed s = true) (i : Nat) : pm s i = pv s i := by unfold pm; rw [h]; rfl
theorem pe_yes (s : ByteArray) (h : parsed s = true) : pe s = 0 := by unfold pe; rw [h]; rfl

/-! ### From an address to its text and back -/
theorem hexv_fig (n : Int) (h : 0 ≤ n ∧ n < 16) : hexv ((fig n).toNat : Int) = n := by
  obtain ⟨m, rfl⟩ := Int.eq_ofNat_of_zero_le h.1
  have key : ∀ m : Fin 16, hexv ((fig ((m.val : Nat) : Int)).toNat : Int) = ((m.val : Nat) : Int) := by decide +kernel
  exact key ⟨m, by omega⟩
theorem txt6_eq' (x0 x1 x2 x3 x4 x5 : Int) : txt6 x0 x1 x2 x3 x4 x5 = [fig (x0 / 16), fig (x0 % 16), 58, fig (x1 / 16), fig (x1 % 16), 58, fig (x2 / 16), fig (x2 % 16), 58, fig (x3 / 16), fig (x3 % 16), 58, fig (x4 / 16), fig (x4 % 16), 58, fig (x5 / 16), fig (x5 % 16)] := by
  simp [txt6, txt]

theorem text_parsed (x0 x1 x2 x3 x4 x5 : Int) (hx0 : 0 ≤ x0 ∧ x0 < 256) (hx1 : 0 ≤ x1 ∧ x1 < 256) (hx2 : 0 ≤ x2 ∧ x2 < 256) (hx3 : 0 ≤ x3 ∧ x3 < 256) (hx4 : 0 ≤ x4 ∧ x4 < 256) (hx5 : 0 ≤ x5 ∧ x5 < 256) : parsed ⟨(txt6 x0 x1 x2 x3 x4 x5).toArray⟩ = true ∧ pv ⟨(txt6 x0 x1 x2 x3 x4 x5).toArray⟩ 0 = x0 ∧ pv ⟨(txt6 x0 x1 x2 x3 x4 x5).toArray⟩ 1 = x1 ∧ pv ⟨(txt6 x0 x1 x2 x3 x4 x5).toArray⟩ 2 = x2 ∧
    pv ⟨(txt6 x0 x1 x2 x3 x4 x5).toArray⟩ 3 = x3 ∧ pv ⟨(txt6 x0 x1 x2 x3 x4 x5).toArray⟩ 4 = x4 ∧ pv ⟨(txt6 x0 x1 x2 x3 x4 x5).toArray⟩ 5 = x5 := by
  have key : ∀ (i : Nat) (n : Int), (0 ≤ n ∧ n < 256) → sb ⟨(txt6 x0 x1 x2 x3 x4 x5).toArray⟩ (3 * i) = ((fig (n / 16)).toNat : Int) → sb ⟨(txt6 x0 x1 x2 x3 x4 x5).toArray⟩ (3 * i + 1) = ((fig (n % 16)).toNat : Int) → (i ≠ 0 → sb ⟨(txt6 x0 x1 x2 x3 x4 x5).toArray⟩ (3 * i - 1) = 58) →
      good ⟨(txt6 x0 x1 x2 x3 x4 x5).toArray⟩ i = true ∧ pv ⟨(txt6 x0 x1 x2 x3 x4 x5).toArray⟩ i = n := fun i n hn e1 e2 e3 => by
    unfold good pv
    rw [e1, e2, hexv_fig _ (by omega), hexv_fig _ (by omega)]
    refine ⟨?_, by omega⟩
    simp only [Bool.and_eq_true, decide_eq_true_eq, Bool.or_eq_true, beq_iff_eq]
    refine ⟨⟨by omega, by omega⟩, ?_⟩
    by_cases h0 : i = 0
    · exact .inl h0
    · exact .inr (e3 h0)
  rw [txt6_eq'] at *
  have k0 := key 0 x0 hx0 rfl rfl (fun h => absurd rfl h)
  have k1 := key 1 x1 hx1 rfl rfl (fun _ => rfl)
  have k2 := key 2 x2 hx2 rfl rfl (fun _ => rfl)
  have k3 := key 3 x3 hx3 rfl rfl (fun _ => rfl)
  have k4 := key 4 x4 hx4 rfl rfl (fun _ => rfl)
  have k5 := key 5 x5 hx5 rfl rfl (fun _ => rfl)
  refine ⟨?_, k0.2, k1.2, k2.2, k3.2, k4.2, k5.2⟩
  unfold parsed
  rw [k0.1, k1.1, k2.1, k3.1, k4.1, k5.1]
  rfl

theorem fig_hexv' (b : UInt8) (h : 0 ≤ hexv (b.toNat : Int)) : fig (hexv (b.toNat : Int)) = b := by
  have key : ∀ m : Fin 256, 0 ≤ hexv ((m.val : Nat) : Int) → fig (hexv ((m.val : Nat) : Int)) = UInt8.ofNat m.val := by decide +kernel
  have := key ⟨b.toNat, UInt8.toNat_lt b⟩ h
  rw [this]
  exact UInt8.ofNat_toNat

theorem list17 (l : List UInt8) (h : l.length = 17) : l = [l.getD 0 0, l.getD 1 0, l.getD 2 0, l.getD 3 0, l.getD 4 0, l.getD 5 0, l.getD 6 0, l.getD 7 0, l.getD 8 0, l.getD 9 0, l.getD 10 0, l.getD 11 0, l.getD 12 0, l.getD 13 0, l.getD 14 0, l.getD 15 0, l.getD 16 0] := by
  match l, h with
  | [_, _, _, _, _, _, _, _, _, _, _, _, _, _, _, _, _], _ => rfl

theorem parsed_text (s : ByteArray) (h : parsed s = true) : txt6 (pm s 0) (pm s 1) (pm s 2) (pm s 3) (pm s 4) (pm s 5) = s.data.toList := by
  obtain ⟨hz, hg⟩ := good_all s h
  have hl : s.data.toList.length = 17 := by rw [Array.length_toList]; exact hz
  have key : ∀ i : Nat, i < 6 → fig (pm s i / 16) = s.data.toList.getD (3 * i) 0 ∧ fig (pm s i % 16) = s.data.toList.getD (3 * i + 1) 0 ∧ (0 < i → s.data.toList.getD (3 * i - 1) 0 = 58) := fun i hi => by
    obtain ⟨g1, g2, g3, _, _⟩ := pv_bound s i (hg i hi)
    have b1 := hexv_bound (sb s (3 * i))
    have b2 := hexv_bound (sb s (3 * i + 1))
    have e1 : pm s i / 16 = hexv (sb s (3 * i)) := by rw [pm_yes s h]; unfold pv; omega
    have e2 : pm s i % 16 = hexv (sb s (3 * i + 1)) := by rw [pm_yes s h]; unfold pv; omega
    rw [e1, e2]
    refine ⟨fig_hexv' _ g1, fig_hexv' _ g2, fun h0 => ?_⟩
    have := g3 h0
    unfold sb at this
    exact UInt8.toNat_inj.1 (by rw [show (58 : UInt8).toNat = 58 from rfl]; omega)
  have k0 := key 0 (by omega)
  have k1 := key 1 (by omega)
  have k2 := key 2 (by omega)
  have k3 := key 3 (by omega)
  have k4 := key 4 (by omega)
  have k5 := key 5 (by omega)
  rw [txt6_eq', k0.1, k0.2.1, k1.1, k1.2.1, k2.1, k2.2.1, k3.1, k3.2.1, k4.1, k4.2.1, k5.1, k5.2.1]
  refine Eq.trans ?_ (list17 _ hl).symm
  have c1 := k1.2.2 (by omega)
  have c2 := k2.2.2 (by omega)
  have c3 := k3.2.2 (by omega)
  have c4 := k4.2.2 (by omega)
  have c5 := k5.2.2 (by omega)
  simp only [Nat.reduceMul, Nat.reduceSub, Nat.reduceAdd] at c1 c2 c3 c4 c5 ⊢
  rw [c1, c2, c3, c4, c5]

theorem eq6_same' (z0 z1 z2 z3 z4 z5 : Int) (w : World) : (Op.equalIn 10000 23 (.agg #[.int .u8 z0, .int .u8 z1, .int .u8 z2, .int .u8 z3, .int .u8 z4, .int .u8 z5]) (.agg #[.int .u8 z0, .int .u8 z1, .int .u8 z2, .int .u8 z3, .int .u8 z4, .int .u8 z5])).run Try.prog w = .ok true w := by
  obtain ⟨i0, hi, -, -, -⟩ := info_parts info5
  rw [run_eq6 (P := Try.prog) (w := w) (d := 9998) (t := 23) Try.underlying23 Try.underlying5 hi cells5 z0 z1 z2 z3 z4 z5 z0 z1 z2 z3 z4 z5]
  simp
end Go.Proofs.Ytgklokpjfnpabaa

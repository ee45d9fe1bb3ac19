/-
  The reference's mux: Step and what it goes on to; the two steps are one.
-/
import Derived.Test.YtpkpgefmkamaiaaMuxE
namespace Go.Proofs.Ytpkpgefmkamaiaa
open Go.RowKit
set_option linter.unusedVariables false

/-- What the reference goes on to; -1: nothing. -/
def nextS (sel : Bool) (s f p now : Int) : Int :=
  if sel = false then (if s = 0 then -1 else 0)
  else if s = 0 then 1
  else if s = 1 ∧ 2 ≤ now - f then 2
  else if 3 ≤ s ∧ hasB p 8 = false then 2
  else if s = 4 ∧ hasB p 16 = false then 3
  else if s = 2 ∧ hasB p 8 = true then 3
  else if s = 3 ∧ hasB p 16 = true then 4
  else -1

theorem bits_and8 (p : Int) : (bits .and .i64 p 8 != 0) = hasB p 8 := rfl

set_option maxHeartbeats 2000000 in
theorem next_any (g : Nat) (sel : Bool) (s f p now : Int) (w : World) (hb : w.heap[g]? = some (.cells #[.int .i64 s, .int .i64 f] 35 (0, 0))) (hs : 0 ≤ s ∧ s ≤ 4)
    (hf : 0 ≤ f ∧ f ≤ 1099511627776) (hn : 0 ≤ now ∧ now ≤ 1099511627776) :
    Calls Try.prog 18 #[.pointer (some ⟨g, 0, none⟩), .bool sel, .int .i64 p, .int .i64 now] w fun e w' => e = .returned (.int .i64 (nextS sel s f p now)) ∧ w = w' := by
  have h0 : w.cell? ⟨g, 0, none⟩ = some (.int .i64 s) := cell_of_row w g 0 _ 35 (0, 0) hb
  have h1 : w.cell? ⟨g, 1, none⟩ = some (.int .i64 f) := cell_of_row w g 1 _ 35 (0, 0) hb
  clear hb
  cases sel
  · by_cases h00 : s = 0
    · subst h00
      clear hs
      have HX : Hid (nextS false 0 f p now = -1) := by show _ = _; simp [nextS]
      go_enter Try.func18, Try.ntmps18
      go_wp2
      go_ret
      exact ⟨by rw [HX.out]; rfl, rfl⟩
    · have h00' : (s == 0) = false := by rw [beq_eq_false_iff_ne]; exact h00
      clear hs
      have HX : Hid (nextS false s f p now = 0) := by show _ = _; simp [nextS, h00]
      go_enter Try.func18, Try.ntmps18
      go_wp2
      go_ret
      exact ⟨by rw [HX.out]; rfl, rfl⟩
  · rcases (show s = 0 ∨ s = 1 ∨ s = 2 ∨ s = 3 ∨ s = 4 by omega) with rfl | rfl | rfl | rfl | rfl <;> clear hs
    · have HX : Hid (nextS true 0 f p now = 1) := by show _ = _; simp [nextS]
      go_enter Try.func18, Try.ntmps18
      go_wp2
      go_ret
      exact ⟨by rw [HX.out]; rfl, rfl⟩
    · by_cases hl : 2 ≤ now - f
      · have HX : Hid (nextS true 1 f p now = 2) := by show _ = _; simp [nextS, hl]
        go_enter Try.func18, Try.ntmps18
        go_wp2
        go_ret
        exact ⟨by rw [HX.out]; rfl, rfl⟩
      · have HX : Hid (nextS true 1 f p now = -1) := by show _ = _; simp [nextS, hl]
        go_enter Try.func18, Try.ntmps18
        go_wp2
        go_ret
        exact ⟨by rw [HX.out]; rfl, rfl⟩
    · cases h8 : hasB p 8
      · have HX : Hid (nextS true 2 f p now = -1) := by show _ = _; simp [nextS, h8]
        replace h8 : (bits .and .i64 p 8 != 0) = false := h8
        go_enter Try.func18, Try.ntmps18
        go_wp2
        go_ret
        exact ⟨by rw [HX.out]; rfl, rfl⟩
      · have HX : Hid (nextS true 2 f p now = 3) := by show _ = _; simp [nextS, h8]
        replace h8 : (bits .and .i64 p 8 != 0) = true := h8
        go_enter Try.func18, Try.ntmps18
        go_wp2
        go_ret
        exact ⟨by rw [HX.out]; rfl, rfl⟩
    · cases h8 : hasB p 8
      · have HX : Hid (nextS true 3 f p now = 2) := by show _ = _; simp [nextS, h8]
        replace h8 : (bits .and .i64 p 8 != 0) = false := h8
        go_enter Try.func18, Try.ntmps18
        go_wp2
        go_ret
        exact ⟨by rw [HX.out]; rfl, rfl⟩
      · cases h16 : hasB p 16
        · have HX : Hid (nextS true 3 f p now = -1) := by show _ = _; simp [nextS, h8, h16]
          replace h8 : (bits .and .i64 p 8 != 0) = true := h8
          replace h16 : (bits .and .i64 p 16 != 0) = false := h16
          go_enter Try.func18, Try.ntmps18
          go_wp2
          go_ret
          exact ⟨by rw [HX.out]; rfl, rfl⟩
        · have HX : Hid (nextS true 3 f p now = 4) := by show _ = _; simp [nextS, h8, h16]
          replace h8 : (bits .and .i64 p 8 != 0) = true := h8
          replace h16 : (bits .and .i64 p 16 != 0) = true := h16
          go_enter Try.func18, Try.ntmps18
          go_wp2
          go_ret
          exact ⟨by rw [HX.out]; rfl, rfl⟩
    · cases h8 : hasB p 8
      · have HX : Hid (nextS true 4 f p now = 2) := by show _ = _; simp [nextS, h8]
        replace h8 : (bits .and .i64 p 8 != 0) = false := h8
        go_enter Try.func18, Try.ntmps18
        go_wp2
        go_ret
        exact ⟨by rw [HX.out]; rfl, rfl⟩
      · cases h16 : hasB p 16
        · have HX : Hid (nextS true 4 f p now = 3) := by show _ = _; simp [nextS, h8, h16]
          replace h8 : (bits .and .i64 p 8 != 0) = true := h8
          replace h16 : (bits .and .i64 p 16 != 0) = false := h16
          go_enter Try.func18, Try.ntmps18
          go_wp2
          go_ret
          exact ⟨by rw [HX.out]; rfl, rfl⟩
        · have HX : Hid (nextS true 4 f p now = -1) := by show _ = _; simp [nextS, h8, h16]
          replace h8 : (bits .and .i64 p 8 != 0) = true := h8
          replace h16 : (bits .and .i64 p 16 != 0) = true := h16
          go_enter Try.func18, Try.ntmps18
          go_wp2
          go_ret
          exact ⟨by rw [HX.out]; rfl, rfl⟩

theorem step_bad (g : Nat) (sel : Bool) (p now : Int) (w : World) (hok : ¬ okStep p now) :
    Calls Try.prog 11 #[.pointer (some ⟨g, 0, none⟩), .bool sel, .int .i64 p, .int .i64 now] w fun e w' => e = .returned (.tuple #[.bool false, .int .i64 1]) ∧ w = w' := by
  rcases (show now < 0 ∨ (0 ≤ now ∧ 1099511627776 < now) ∨ (0 ≤ now ∧ now ≤ 1099511627776 ∧ p < 0) ∨ (0 ≤ now ∧ now ≤ 1099511627776 ∧ 0 ≤ p ∧ 255 < p) by unfold okStep at hok; omega) with h | ⟨h, h'⟩ | ⟨h, h', h2⟩ | ⟨h, h', h2, h3⟩
  all_goals
    clear hok
    go_enter Try.func11, Try.ntmps11
    go_wp2
    go_ret2
    exact ⟨rfl, rfl⟩
theorem refStep_bad (g : Nat) (sel : Bool) (p now : Int) (w : World) (hok : ¬ okStep p now) :
    Calls Try.prog 12 #[.pointer (some ⟨g, 0, none⟩), .bool sel, .int .i64 p, .int .i64 now] w fun e w' => e = .returned (.tuple #[.bool false, .int .i64 1]) ∧ w = w' := by
  rcases (show now < 0 ∨ (0 ≤ now ∧ 1099511627776 < now) ∨ (0 ≤ now ∧ now ≤ 1099511627776 ∧ p < 0) ∨ (0 ≤ now ∧ now ≤ 1099511627776 ∧ 0 ≤ p ∧ 255 < p) by unfold okStep at hok; omega) with h | ⟨h, h'⟩ | ⟨h, h', h2⟩ | ⟨h, h', h2, h3⟩
  all_goals
    clear hok
    go_enter Try.func12, Try.ntmps12
    go_wp2
    go_ret2
    exact ⟨rfl, rfl⟩

/-- The two steps are one. -/
theorem stepS_next (sel : Bool) (s f p now : Int) (hs : 0 ≤ s ∧ s ≤ 4) :
    stepS sel s f p now = if nextS sel s f p now < 0 then ⟨s, f, false⟩ else ⟨nextS sel s f p now, if nextS sel s f p now = 1 then now else f, true⟩ := by
  rcases (show s = 0 ∨ s = 1 ∨ s = 2 ∨ s = 3 ∨ s = 4 by omega) with rfl | rfl | rfl | rfl | rfl <;> cases sel <;> cases h8 : hasB p 8 <;> cases h16 : hasB p 16 <;> by_cases hl : 2 ≤ now - f <;>
    simp [stepS, firstB, ruleB, ruleT, nextS, h8, h16, hl]

set_option maxHeartbeats 2000000 in
theorem refStep_any (g : Nat) (sel : Bool) (s f p now : Int) (w : World) (hb : w.heap[g]? = some (.cells #[.int .i64 s, .int .i64 f] 35 (0, 0))) (hs : 0 ≤ s ∧ s ≤ 4)
    (hf : 0 ≤ f ∧ f ≤ 1099511627776) (hok : okStep p now) :
    Calls Try.prog 12 #[.pointer (some ⟨g, 0, none⟩), .bool sel, .int .i64 p, .int .i64 now] w fun e w' => e = .returned (.tuple #[.bool (stepS sel s f p now).did, .int .i64 0]) ∧ Stepped w w' g 35 (stepS sel s f p now).s (stepS sel s f p now).f := by
  obtain ⟨n0, n1, p0, p1⟩ := hok
  have HN := hide (next_any g sel s f p now w hb hs hf ⟨n0, n1⟩)
  have HE := hide (stepS_next sel s f p now hs)
  have m0 : w.cell? ⟨g, 0, none⟩ = some (.int .i64 s) := cell_of_row w g 0 _ 35 (0, 0) hb
  have m1 : w.cell? ⟨g, 1, none⟩ = some (.int .i64 f) := cell_of_row w g 1 _ 35 (0, 0) hb
  have z0 : w.frozen? ⟨g, 0, none⟩ = false := frozen_of_row w g 0 _ 35 hb
  have z1 : w.frozen? ⟨g, 1, none⟩ = false := frozen_of_row w g 1 _ 35 hb
  have HB := hide hb
  clear hb hs
  generalize hN : nextS sel s f p now = N at *
  clear hN
  by_cases c1 : N < 0
  · go_enter Try.func12, Try.ntmps12
    go_wp2_with fail
    refine HN.out.mono ?_
    rintro e w1 ⟨rfl, rfl⟩
    go_wp2_with fail
    go_ret2
    exact ⟨by rw [HE.out, if_pos c1]; rfl, by rw [HE.out, if_pos c1]; exact stepped_of_below HB.out (Below.refl _ _)⟩
  · by_cases c2 : N = 1
    · subst c2
      go_enter Try.func12, Try.ntmps12
      go_wp2_with fail
      refine HN.out.mono ?_
      rintro e w1 ⟨rfl, rfl⟩
      go_wp2_with fail
      go_ret2
      exact ⟨by rw [HE.out, if_neg (by decide)]; rfl, by rw [HE.out, if_neg (by decide)]; exact stepped_store2 (stepped_store1 HB.out (Below.refl _ _))⟩
    · go_enter Try.func12, Try.ntmps12
      go_wp2_with fail
      refine HN.out.mono ?_
      rintro e w1 ⟨rfl, rfl⟩
      go_wp2_with fail
      go_ret2
      exact ⟨by rw [HE.out, if_neg (by omega)]; rfl, by rw [HE.out, if_neg (by omega), if_neg (by omega)]; exact stepped_store1 HB.out (Below.refl _ _)⟩

/-- A state stays one, and its moment. -/
theorem stepS_ok (sel : Bool) (s f p now : Int) (hs : 0 ≤ s ∧ s ≤ 4) (hf : 0 ≤ f ∧ f ≤ 1099511627776) (hok : okStep p now) :
    (0 ≤ (stepS sel s f p now).s ∧ (stepS sel s f p now).s ≤ 4) ∧ (0 ≤ (stepS sel s f p now).f ∧ (stepS sel s f p now).f ≤ 1099511627776) := by
  obtain ⟨n0, n1, _, _⟩ := hok
  unfold stepS
  cases firstB (ruleB sel s f p now) 0 7 with
  | none => exact ⟨hs, hf⟩
  | some k =>
    refine ⟨?_, ?_⟩
    · match k with
      | 0 | 1 | 2 | 3 | 4 | 5 => simp [ruleT]
      | k + 6 => simp [ruleT]
    · show 0 ≤ (if ruleT k = 1 then now else f) ∧ (if ruleT k = 1 then now else f) ≤ 1099511627776
      split
      · exact ⟨n0, n1⟩
      · exact hf
end Go.Proofs.Ytpkpgefmkamaiaa

/-
  The reference's lane: Get, Lose.
-/
import Derived.Test.YtekljcgljoianaaLaneD
namespace Go.Proofs.Ytekljcgljoianaa
open Go.RowKit Go.WideShapes Go.ChangeShapes
set_option linter.unusedVariables false

theorem rows_tail1 {w : World} {X : Nat → Prop} {b o cap : Nat} {q : List UInt8} {r : List (List UInt8)} (h1 : r.length + 1 ≤ cap) (h2 : cap ≤ 9223372036854775807) (hX : ¬ X b)
    (hc : ∀ i, (hi : i < (q :: r).length) → ∃ v, w.cell? ⟨b, o + i, none⟩ = some v ∧ RowAt w X v (q :: r)[i]) : RowsAt w X (.slice (some ⟨b, o + 1, none⟩) r.length (cap - 1)) r :=
  ⟨_, cap - 1, rfl, by omega, by omega, by simp, .inr ⟨b, o + 1, rfl, hX, fun i hi => by
    obtain ⟨v, k1, k2⟩ := hc (i + 1) (by simp; exact hi)
    exact ⟨v, by rw [← k1]; congr 2; omega, by simpa using k2⟩⟩⟩
theorem rows_tail2 {w : World} {X : Nat → Prop} {b o : Nat} {r : List (List UInt8)} (h1 : r.length + 1 ≤ 1) : RowsAt w X (.slice (some ⟨b, o, none⟩) r.length 0) r :=
  ⟨_, 0, rfl, by omega, by omega, by simp, .inl (List.eq_nil_of_length_eq_zero (by omega))⟩

def RefGetPost (X Y : Nat → Prop) (g : Nat) (x : LS) (w : World) (e : Ending) (w' : World) : Prop :=
  (x.Q = [] ∧ e = .returned (.tuple #[.slice none 0 0, .bool false]) ∧ w = w') ∨
  (∃ q r v, x.Q = q :: r ∧ e = .returned (.tuple #[v, .bool true]) ∧ RowAt w' X v q ∧ Chg Y w w' ∧ RefAt w' X g x.get)
theorem refGet_any (X Y : Nat → Prop) [Sub Y X] (g : Nat) (x : LS) (w : World) (hX : Y g) (hf : x.fine) (hl : RefAt w X g x) :
    Calls Try.prog 22 #[.pointer (some ⟨g, 0, none⟩)] w (RefGetPost X Y g x w) := by
  obtain ⟨A, cap, hrows, -, -, m2, m3, m4, -, z⟩ := hl.cells
  obtain ⟨⟨r0, r1⟩, f0, f1, f2, f3, f4⟩ := hf
  have b0 : 0 ≤ x.got := f2
  have b1 : x.got ≤ 1000000 := by omega
  have b2 : x.Q.length ≤ 1000 := by omega
  have z2 := z 2; have z4 := z 4
  have HL := hide hl
  clear hl z f0 f1 f2 f3 f4
  obtain ⟨room, cut, asked, got, lost, Q⟩ := x
  simp only at m2 m3 m4 b0 b1 b2 hrows
  rcases Q with _ | ⟨q, r⟩
  · have m2' : w.cell? ⟨g, 2, none⟩ = some (.slice A 0 cap) := m2
    clear m2 hrows
    go_enter Try.func22, Try.ntmps22
    go_wp2
    go_ret2
    exact .inl ⟨rfl, rfl, rfl⟩
  · obtain ⟨A', cap', he, hlc, hm, hA, hc⟩ := hrows
    injection he with e1 e2 e3
    subst e1 e3
    rcases hc with hc | ⟨b, o, rfl, hXb, hc⟩
    · simp at hc
    obtain ⟨v, hv, hrow⟩ := hc 0 (by simp)
    have hl0 : (q :: r).length = r.length + 1 := rfl
    rw [hl0] at m2 hlc b2
    have HC := hide hc; have HR := hide hrow
    clear hc hrow hA
    simp only [Nat.add_zero] at hv
    go_enter Try.func22, Try.ntmps22
    go_wp2_with fail
    all_goals
      go_ret2
      refine .inr ⟨q, r, v, rfl, rfl, HR.out.chg (((Chg.refl Y w).setCell (i := 2) hX _).setCell (i := 4) hX _), ((Chg.refl Y w).setCell hX _).setCell hX _, ?_⟩
      obtain ⟨L, h1, -⟩ := HL.out
      have e := heap_setCell_same _ g 4 _ 47 (.int .i64 (got + 1)) (heap_setCell_same w g 2 _ 47 (.slice (some ⟨b, o + 1, none⟩) r.length (cap - 1)) h1)
      have e' := heap_setCell_same _ g 4 _ 47 (.int .i64 (got + 1)) (heap_setCell_same w g 2 _ 47 (.slice (some ⟨b, o, none⟩) r.length 0) h1)
      first
        | exact ⟨.slice (some ⟨b, o + 1, none⟩) r.length (cap - 1), e, (rows_tail1 (by omega) (by omega) hXb HC.out).chg (((Chg.refl Y w).setCell (i := 2) hX _).setCell (i := 4) hX _)⟩
        | exact ⟨.slice (some ⟨b, o, none⟩) r.length 0, e', (rows_tail2 (by omega)).chg (((Chg.refl Y w).setCell (i := 2) hX _).setCell (i := 4) hX _)⟩

def RefLosePost (X Y : Nat → Prop) (g : Nat) (x : LS) (w : World) (e : Ending) (w' : World) : Prop :=
  (x.Q = [] ∧ e = .returned (.bool false) ∧ w = w') ∨
  (∃ q r, x.Q = q :: r ∧ e = .returned (.bool true) ∧ Chg Y w w' ∧ RefAt w' X g x.lose)
theorem refLose_any (X Y : Nat → Prop) [Sub Y X] (g : Nat) (x : LS) (w : World) (hX : Y g) (hf : x.fine) (hl : RefAt w X g x) :
    Calls Try.prog 23 #[.pointer (some ⟨g, 0, none⟩)] w (RefLosePost X Y g x w) := by
  obtain ⟨A, cap, hrows, -, -, m2, m3, -, m5, z⟩ := hl.cells
  obtain ⟨⟨r0, r1⟩, f0, f1, f2, f3, f4⟩ := hf
  have b0 : 0 ≤ x.lost := f3
  have b1 : x.lost ≤ 1000000 := by omega
  have b2 : x.Q.length ≤ 1000 := by omega
  have z2 := z 2; have z5 := z 5
  have HL := hide hl
  clear hl z f0 f1 f2 f3 f4
  obtain ⟨room, cut, asked, got, lost, Q⟩ := x
  simp only at m2 m3 m5 b0 b1 b2 hrows
  rcases Q with _ | ⟨q, r⟩
  · have m2' : w.cell? ⟨g, 2, none⟩ = some (.slice A 0 cap) := m2
    clear m2 hrows
    go_enter Try.func23, Try.ntmps23
    go_wp2
    go_ret
    exact .inl ⟨rfl, rfl, rfl⟩
  · obtain ⟨A', cap', he, hlc, hm, hA, hc⟩ := hrows
    injection he with e1 e2 e3
    subst e1 e3
    rcases hc with hc | ⟨b, o, rfl, hXb, hc⟩
    · simp at hc
    have hl0 : (q :: r).length = r.length + 1 := rfl
    rw [hl0] at m2 hlc b2
    have HC := hide hc
    clear hc hA
    go_enter Try.func23, Try.ntmps23
    go_wp2_with fail
    all_goals
      go_ret
      refine .inr ⟨q, r, rfl, rfl, ((Chg.refl Y w).setCell hX _).setCell hX _, ?_⟩
      obtain ⟨L, h1, -⟩ := HL.out
      have e := heap_setCell_same _ g 5 _ 47 (.int .i64 (lost + 1)) (heap_setCell_same w g 2 _ 47 (.slice (some ⟨b, o + 1, none⟩) r.length (cap - 1)) h1)
      have e' := heap_setCell_same _ g 5 _ 47 (.int .i64 (lost + 1)) (heap_setCell_same w g 2 _ 47 (.slice (some ⟨b, o, none⟩) r.length 0) h1)
      first
        | exact ⟨.slice (some ⟨b, o + 1, none⟩) r.length (cap - 1), e, (rows_tail1 (by omega) (by omega) hXb HC.out).chg (((Chg.refl Y w).setCell (i := 2) hX _).setCell (i := 5) hX _)⟩
        | exact ⟨.slice (some ⟨b, o, none⟩) r.length 0, e', (rows_tail2 (by omega)).chg (((Chg.refl Y w).setCell (i := 2) hX _).setCell (i := 5) hX _)⟩
end Go.Proofs.Ytekljcgljoianaa

/-
  The reference's lane: New, Get, Lose, Cut, Heal.
-/
import Derived.Test.YtekljcgljoianaaLaneC
import Derived.Laws.AppendOwnNone
namespace Go.Proofs.Ytekljcgljoianaa
open Go.RowKit Go.WideShapes Go.ChangeShapes
set_option linter.unusedVariables false

/-- A slice of slices of bytes, of which no block turns. -/
def RowsAt (w : World) (X : Nat → Prop) (v : Value) (Q : List (List UInt8)) : Prop :=
  ∃ A cap, v = .slice A Q.length cap ∧ Q.length ≤ cap ∧ cap ≤ 9223372036854775807 ∧ (A = none → cap = 0) ∧ (Q = [] ∨ ∃ b o, A = some ⟨b, o, none⟩ ∧ ¬ X b ∧ ∀ i, (hi : i < Q.length) → ∃ v, w.cell? ⟨b, o + i, none⟩ = some v ∧ RowAt w X v Q[i])
theorem RowsAt.chg {w w' : World} {X Y : Nat → Prop} [Sub Y X] {v : Value} {Q : List (List UInt8)} (h : RowsAt w X v Q) (hc : Chg Y w w') : RowsAt w' X v Q := by
  obtain ⟨A, cap, rfl, hl, hm, hA, h⟩ := h
  refine ⟨A, cap, rfl, hl, hm, hA, ?_⟩
  rcases h with h | ⟨b, o, rfl, hb, h⟩
  · exact .inl h
  · exact .inr ⟨b, o, rfl, hb, fun i hi => let ⟨v, h1, h2⟩ := h i hi; ⟨v, hc.cell h1 (fun hy => hb (Sub.sub _ hy)), h2.chg hc⟩⟩

def refCells (L : Value) (x : LS) : Array Value := #[.int .i64 x.room, .bool x.cut, L, .int .i64 x.asked, .int .i64 x.got, .int .i64 x.lost]
def RefAt (w : World) (X : Nat → Prop) (h : Nat) (x : LS) : Prop := ∃ L, w.heap[h]? = some (.cells (refCells L x) 47 (0, 0)) ∧ RowsAt w X L x.Q
theorem RefAt.chg {w w' : World} {X Y : Nat → Prop} [Sub Y X] {g : Nat} {x : LS} (h : RefAt w X g x) (hc : Chg Y w w') (hg : w'.heap[g]? = w.heap[g]?) : RefAt w' X g x := by
  obtain ⟨L, h1, h2⟩ := h
  exact ⟨L, hg.trans h1, h2.chg hc⟩
theorem RefAt.set {w : World} {X Y : Nat → Prop} [Sub Y X] {g : Nat} {x : LS} (h : RefAt w X g x) (hX : Y g) (i : Nat) (v : Value) (x' : LS) (hc : ∀ L, (refCells L x).setIfInBounds i v = refCells L x') (hQ : x'.Q = x.Q) :
    RefAt (w.setCell ⟨g, i, none⟩ v) X g x' := by
  obtain ⟨L, h1, h2⟩ := h
  refine ⟨L, ?_, ?_⟩
  · rw [← hc]
    exact heap_setCell_same _ g i _ 47 _ h1
  · rw [hQ]
    exact h2.chg ((Chg.refl Y w).setCell hX _)
theorem RefAt.cells {w : World} {X : Nat → Prop} {g : Nat} {x : LS} (h : RefAt w X g x) : ∃ A cap, RowsAt w X (.slice A x.Q.length cap) x.Q ∧ w.cell? ⟨g, 0, none⟩ = some (.int .i64 x.room) ∧ w.cell? ⟨g, 1, none⟩ = some (.bool x.cut) ∧
    w.cell? ⟨g, 2, none⟩ = some (.slice A x.Q.length cap) ∧ w.cell? ⟨g, 3, none⟩ = some (.int .i64 x.asked) ∧
    w.cell? ⟨g, 4, none⟩ = some (.int .i64 x.got) ∧ w.cell? ⟨g, 5, none⟩ = some (.int .i64 x.lost) ∧ (∀ i, w.frozen? ⟨g, i, none⟩ = false) := by
  obtain ⟨L, h1, h2⟩ := h
  have h2' := h2
  obtain ⟨A, cap, rfl, -⟩ := h2
  exact ⟨A, cap, h2', cell_of_row w g 0 _ 47 (0, 0) h1, cell_of_row w g 1 _ 47 (0, 0) h1, cell_of_row w g 2 _ 47 (0, 0) h1, cell_of_row w g 3 _ 47 (0, 0) h1, cell_of_row w g 4 _ 47 (0, 0) h1, cell_of_row w g 5 _ 47 (0, 0) h1, fun i => frozen_of_row w g i _ 47 h1⟩

def RefNewPost (X : Nat → Prop) (room : Int) (w : World) (e : Ending) (w' : World) : Prop :=
  (1 ≤ room ∧ room ≤ 1000 ∧ ∃ n : Nat, room = n ∧ e = .returned (.tuple #[.pointer (some ⟨w.heap.size, 0, none⟩), .int .i64 0]) ∧ Below w.heap.size w w' ∧ w'.heap.size = w.heap.size + 1 ∧ RefAt w' X w.heap.size (LS.new n)) ∨
  ((room < 1 ∨ 1000 < room) ∧ e = .returned (.tuple #[.pointer none, .int .i64 1]) ∧ w = w')
theorem refNew_any (X : Nat → Prop) (room : Int) (w : World) : Calls Try.prog 17 #[.int .i64 room] w (RefNewPost X room w) := by
  rcases (show room < 1 ∨ (1 ≤ room ∧ 1000 < room) ∨ (1 ≤ room ∧ room ≤ 1000) by omega) with h | ⟨h, h'⟩ | ⟨h, h'⟩
  · go_enter Try.func17, Try.ntmps17
    go_wp2
    go_ret2
    exact .inr ⟨.inl h, rfl, rfl⟩
  · go_enter Try.func17, Try.ntmps17
    go_wp2
    go_ret2
    exact .inr ⟨.inr h', rfl, rfl⟩
  · obtain ⟨n, rfl⟩ : ∃ n : Nat, room = n := ⟨room.toNat, by omega⟩
    go_enter Try.func17, Try.ntmps17
    go_wp2_with fail
    go_ret2
    exact .inl ⟨h, h', n, rfl, rfl, (Below.refl _ _).alloc (Nat.le_refl _) _, by simp, .slice none 0 0, heap_alloc_new _ _, none, 0, rfl, by simp [LS.new], by omega, by simp, .inl rfl⟩

theorem refHeal_any (X Y : Nat → Prop) [Sub Y X] (g : Nat) (x : LS) (w : World) (hX : Y g) (hl : RefAt w X g x) : Calls Try.prog 25 #[.pointer (some ⟨g, 0, none⟩)] w fun e w' => e = .returned (.tuple #[]) ∧ Chg Y w w' ∧ RefAt w' X g x.heal := by
  obtain ⟨A, cap, -, -, m1, -, -, -, -, z⟩ := hl.cells
  have z1 := z 1
  have HL := hide hl
  clear hl z
  go_enter Try.func25, Try.ntmps25
  go_wp2
  go_end0
  exact ⟨rfl, (Chg.refl Y w).setCell hX _, HL.out.set hX 1 _ _ (fun _ => rfl) rfl⟩

theorem refCut_any (X Y : Nat → Prop) [Sub Y X] (g : Nat) (x : LS) (w : World) (hX : Y g) (hf : x.fine) (hl : RefAt w X g x) : Calls Try.prog 24 #[.pointer (some ⟨g, 0, none⟩)] w fun e w' => e = .returned (.int .i64 x.Q.length) ∧ Chg Y w w' ∧ RefAt w' X g x.down := by
  obtain ⟨A, cap, -, -, m1, m2, -, -, m5, z⟩ := hl.cells
  obtain ⟨⟨r0, r1⟩, f0, f1, f2, f3, f4⟩ := hf
  have b0 : 0 ≤ x.lost := f3
  have b1 : x.lost ≤ 1000000 := by omega
  have b2 : x.Q.length ≤ 1000 := by omega
  have z1 := z 1; have z2 := z 2; have z5 := z 5
  obtain ⟨L, h1, -⟩ := hl
  have H1 := hide h1
  clear h1 z f0 f1 f2 f3 f4
  have hw : IntKind.i64.wrap (x.lost + x.Q.length) = x.lost + x.Q.length := IntWalk.i64_in _ ⟨by omega, by omega⟩
  go_enter Try.func24, Try.ntmps24
  go_wp2
  go_ret
  refine ⟨rfl, (((Chg.refl Y w).setCell hX _).setCell hX _).setCell hX _, .slice none 0 0, ?_, none, 0, rfl, by simp [LS.down], by omega, by simp, .inl rfl⟩
  have := heap_setCell_same _ g 1 _ 47 (.bool true) (heap_setCell_same _ g 5 _ 47 (.int .i64 (x.lost + x.Q.length)) (heap_setCell_same w g 2 _ 47 (.slice none 0 0) H1.out))
  exact this
end Go.Proofs.Ytekljcgljoianaa

/-
  A lane: Get, Lose, Cut, New.
-/
import Derived.Test.YtekljcgljoianaaLaneA
import Derived.Deep.OwnRows
namespace Go.Proofs.Ytekljcgljoianaa
open Go.RowKit Go.WideShapes Go.ChangeShapes
set_option linter.unusedVariables false

theorem LaneAt.set {w : World} {X Y : Nat → Prop} [Sub Y X] {g rg : Nat} {x : LS} (h : LaneAt w X g rg x) (hX : Y g) (i : Nat) (v : Value) (x' : LS) (hc : ∀ first, (laneCells rg first x).setIfInBounds i v = laneCells rg first x') (hr : x'.room = x.room) (hQ : x'.Q = x.Q) :
    LaneAt (w.setCell ⟨g, i, none⟩ v) X g rg x' := by
  obtain ⟨first, h1, h2, h3, h4⟩ := h
  refine ⟨first, ?_, h2, by omega, ?_⟩
  · rw [← hc]
    exact heap_setCell_same _ g i _ 49 _ h1
  · rw [hr, hQ]
    exact h4.chg ((Chg.refl Y w).setCell hX _) (Below.heap_setCell _ _ _ _ (fun e => h2 e.symm))
theorem LaneAt.cells {w : World} {X : Nat → Prop} {g rg : Nat} {x : LS} (h : LaneAt w X g rg x) : w.cell? ⟨g, 2, none⟩ = some (.int .i64 x.Q.length) ∧ w.cell? ⟨g, 3, none⟩ = some (.bool x.cut) ∧ w.cell? ⟨g, 4, none⟩ = some (.int .i64 x.asked) ∧
    w.cell? ⟨g, 5, none⟩ = some (.int .i64 x.got) ∧ w.cell? ⟨g, 6, none⟩ = some (.int .i64 x.lost) ∧ (∀ i, w.frozen? ⟨g, i, none⟩ = false) := by
  obtain ⟨first, h1, _⟩ := h
  exact ⟨cell_of_row w g 2 _ 49 (0, 0) h1, cell_of_row w g 3 _ 49 (0, 0) h1, cell_of_row w g 4 _ 49 (0, 0) h1, cell_of_row w g 5 _ 49 (0, 0) h1, cell_of_row w g 6 _ 49 (0, 0) h1, fun i => frozen_of_row w g i _ 49 h1⟩

def GetPost (X Y : Nat → Prop) (g rg : Nat) (x : LS) (w : World) (e : Ending) (w' : World) : Prop :=
  (x.Q = [] ∧ e = .returned (.tuple #[.slice none 0 0, .bool false]) ∧ w = w') ∨
  (∃ q r v, x.Q = q :: r ∧ e = .returned (.tuple #[v, .bool true]) ∧ RowAt w' X v q ∧ Chg Y w w' ∧ LaneAt w' X g rg x.get)
theorem get_any (X Y : Nat → Prop) [Sub Y X] (g rg : Nat) (x : LS) (w : World) (hX : Y g) (hf : x.fine) (hl : LaneAt w X g rg x) :
    Calls Try.prog 11 #[.pointer (some ⟨g, 0, none⟩)] w (GetPost X Y g rg x w) := by
  go_enter Try.func11, Try.ntmps11
  go_wp2_with fail
  refine (take_any X Y g rg x w hX hf hl).mono ?_
  rintro e w1 (⟨hQ, rfl, rfl⟩ | ⟨q, r, v, hQ, rfl, hrow, hchg, hl1⟩)
  · have HQ := hide hQ; clear hQ
    go_wp2_with fail
    go_ret2
    exact .inl ⟨HQ.out, rfl, rfl⟩
  · obtain ⟨m2, m3, m4, m5, m6, z⟩ := hl1.cells
    have z5 := z 5
    obtain ⟨_, _, f1, f2, f3, f4⟩ := hf
    have b0 : 0 ≤ x.got := f2
    have b1 : x.got ≤ 1000000 := by omega
    have HQ := hide hQ; have HR := hide hrow; have HC := hide hchg; have HL := hide hl1
    clear hQ hrow hchg hl1 m2 m3 m4 m6 z f1 f2 f3 f4 hl
    go_wp2_with fail
    go_ret2
    have HC' := HC.out.setCell (i := 5) hX (.int .i64 (x.got + 1))
    refine .inr ⟨q, r, v, HQ.out, rfl, HR.out.chg ((Chg.refl Y w1).setCell hX _), HC', ?_⟩
    have e : x.get = { x with got := x.got + 1, Q := r } := by unfold LS.get; rw [HQ.out]
    rw [e]
    exact HL.out.set hX 5 _ _ (fun first => rfl) rfl rfl

def LosePost (X Y : Nat → Prop) (g rg : Nat) (x : LS) (w : World) (e : Ending) (w' : World) : Prop :=
  (x.Q = [] ∧ e = .returned (.bool false) ∧ w = w') ∨
  (∃ q r, x.Q = q :: r ∧ e = .returned (.bool true) ∧ Chg Y w w' ∧ LaneAt w' X g rg x.lose)
theorem lose_any (X Y : Nat → Prop) [Sub Y X] (g rg : Nat) (x : LS) (w : World) (hX : Y g) (hf : x.fine) (hl : LaneAt w X g rg x) :
    Calls Try.prog 14 #[.pointer (some ⟨g, 0, none⟩)] w (LosePost X Y g rg x w) := by
  go_enter Try.func14, Try.ntmps14
  go_wp2_with fail
  refine (take_any X Y g rg x w hX hf hl).mono ?_
  rintro e w1 (⟨hQ, rfl, rfl⟩ | ⟨q, r, v, hQ, rfl, hrow, hchg, hl1⟩)
  · have HQ := hide hQ; clear hQ
    go_wp2_with fail
    go_ret
    exact .inl ⟨HQ.out, rfl, rfl⟩
  · obtain ⟨m2, m3, m4, m5, m6, z⟩ := hl1.cells
    have z6 := z 6
    obtain ⟨_, _, f1, f2, f3, f4⟩ := hf
    have b0 : 0 ≤ x.lost := f3
    have b1 : x.lost ≤ 1000000 := by omega
    have HQ := hide hQ; have HC := hide hchg; have HL := hide hl1
    clear hQ hrow hchg hl1 m2 m3 m4 m5 z f1 f2 f3 f4 hl
    go_wp2_with fail
    go_ret
    have HC' := HC.out.setCell (i := 6) hX (.int .i64 (x.lost + 1))
    refine .inr ⟨q, r, HQ.out, rfl, HC', ?_⟩
    have e : x.lose = { x with lost := x.lost + 1, Q := r } := by unfold LS.lose; rw [HQ.out]
    rw [e]
    exact HL.out.set hX 6 _ _ (fun first => rfl) rfl rfl

theorem LS.fine.lose {x : LS} (h : x.fine) : x.lose.fine := by
  unfold LS.lose
  obtain ⟨h1, h2, h3, h4, h5, h6⟩ := h
  split
  · exact ⟨h1, h2, h3, h4, h5, h6⟩
  · rename_i hQ
    rw [hQ] at h2 h3
    simp only [List.length_cons] at h2 h3
    exact ⟨h1, by simp only; omega, by simp only; omega, h4, by simp only; omega, h6⟩

set_option maxHeartbeats 1000000 in
theorem cut_any (X Y : Nat → Prop) [Sub Y X] (g rg : Nat) (x : LS) (w : World) (hX : Y g) (hf : x.fine) (hl : LaneAt w X g rg x) :
    Calls Try.prog 15 #[.pointer (some ⟨g, 0, none⟩)] w fun e w' => e = .returned (.int .i64 x.Q.length) ∧ Chg Y w w' ∧ LaneAt w' X g rg x.down := by
  have HF := hide hf; have HL := hide hl
  obtain ⟨m2, -⟩ := hl.cells
  clear hf hl
  go_enter Try.func15, Try.ntmps15
  go_wp2_with fail
  go_loopw [] (fun wr => ∃ y : LS, LaneAt wr X g rg y ∧ y.fine ∧ y.down = x.down ∧ Chg Y w wr) (fun wr => (intOf ((wr.cell? ⟨g, 2, none⟩).getD undef)).toNat)
  case atStart => exact ⟨x, HL.out, HF.out, rfl, Chg.refl _ _⟩
  case round =>
    obtain ⟨y, hl, hf, hd, hc⟩ := hrel
    have HD := hide hd; have HC := hide hc; have HF := hide hf
    clear hd hc
    obtain ⟨m2, m3, -, -, -, z⟩ := hl.cells
    have z3 := z 3
    have HL := hide hl
    clear z
    have ey : intOf ((wr.cell? ⟨g, 2, none⟩).getD undef) = y.Q.length := by rw [m2]; rfl
    go_wp2_with fail
    refine (lose_any X Y g rg y wr hX HF.out HL.out).mono ?_
    rintro e w1 (⟨hQ, rfl, rfl⟩ | ⟨q, r, hQ, rfl, hchg, hl1⟩)
    · have HQ := hide hQ; clear hQ
      go_wp2_with fail
      go_ret
      have e1 : x.down = { y with cut := true } := by rw [← HD.out]; unfold LS.down; rw [HQ.out]; simp
      rw [e1]
      exact ⟨rfl, HC.out.setCell hX _, HL.out.set hX 3 _ _ (fun first => rfl) rfl rfl⟩
    · obtain ⟨m2', -⟩ := hl1.cells
      have HQ := hide hQ; have HC1 := hide hchg; have HL1 := hide hl1
      clear hQ hchg hl1
      go_wp2_with fail
      go_roundw
      case rel =>
        refine ⟨y.lose, HL1.out, HF.out.lose, ?_, HC.out.trans HC1.out⟩
        rw [← HD.out]
        unfold LS.lose LS.down
        rw [HQ.out]
        simp
        omega
      case measure =>
        rw [m2', ey]
        have : y.Q.length = y.lose.Q.length + 1 := by unfold LS.lose; rw [HQ.out]; simp
        simp [intOf]
        omega

/-- A new one. -/
def LS.new (room : Nat) : LS := ⟨room, false, 0, 0, 0, []⟩
def NewPost (X : Nat → Prop) (room : Int) (w : World) (e : Ending) (w' : World) : Prop :=
  (1 ≤ room ∧ room ≤ 1000 ∧ ∃ n : Nat, room = n ∧ e = .returned (.tuple #[.pointer (some ⟨w.heap.size + 1, 0, none⟩), .int .i64 0]) ∧ Below w.heap.size w w' ∧ w'.heap.size = w.heap.size + 2 ∧ LaneAt w' X (w.heap.size + 1) w.heap.size (LS.new n)) ∨
  ((room < 1 ∨ 1000 < room) ∧ e = .returned (.tuple #[.pointer none, .int .i64 1]) ∧ w = w')
theorem laneNew_any (X : Nat → Prop) (room : Int) (w : World) : Calls Try.prog 9 #[.int .i64 room] w (NewPost X room w) := by
  rcases (show room < 1 ∨ (1 ≤ room ∧ 1000 < room) ∨ (1 ≤ room ∧ room ≤ 1000) by omega) with h | ⟨h, h'⟩ | ⟨h, h'⟩
  · go_enter Try.func9, Try.ntmps9
    go_wp2
    go_ret2
    exact .inr ⟨.inl h, rfl, rfl⟩
  · go_enter Try.func9, Try.ntmps9
    go_wp2
    go_ret2
    exact .inr ⟨.inr h', rfl, rfl⟩
  · obtain ⟨n, rfl⟩ : ∃ n : Nat, room = n := ⟨room.toNat, by omega⟩
    have hmk := fun (u : World) => run_make_row' (P := Try.prog) 45 29 (.slice none 0 0) 24 Try.underlying45 (by kernel_rfl) rfl .i64 .i64 n (by omega) (by omega) u
    go_enter Try.func9, Try.ntmps9
    go_wp2_with fail
    go_ret2
    refine .inl ⟨h, h', n, rfl, rfl, ((Below.refl _ _).alloc (Nat.le_refl _) _).alloc (by simp) _, by simp, 0, ?_, by omega, by show 0 < n; omega, madeCells #[.slice none 0 0] n, ?_, by simp [madeCells, LS.new], fun i hi => by simp [LS.new] at hi⟩
    · have := heap_alloc_new (w.alloc (.cells (madeCells #[.slice none 0 0] n) 29)) (.cells #[.slice (some ⟨w.heap.size, 0, none⟩) n n, .int .i64 0, .int .i64 0, .bool false, .int .i64 0, .int .i64 0, .int .i64 0] 49)
      simpa [LS.new, laneCells] using this
    · rw [Below.heap_alloc _ _ _ (by simp)]
      exact heap_alloc_new _ _
end Go.Proofs.Ytekljcgljoianaa

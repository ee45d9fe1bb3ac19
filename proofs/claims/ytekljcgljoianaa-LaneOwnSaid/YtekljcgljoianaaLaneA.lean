/-
  A lane and the reference's lane: how they lie in memory, what a call leaves; New, Len, Down, Counts, Heal, take.
-/
import Derived.Test.YtekljcgljoianaaRows
import Derived.Test.YtekljcgljoianaaBase
import Derived.Test.YtekljcgljoianaaFlat
import Derived.Test.YtekljcgljoianaaTail
import Derived.Deep.RegionHeld3
import Derived.StillTailTactics
import Derived.OwnWalk
import Derived.Laws.CopyOwn
namespace Go.Proofs.Ytekljcgljoianaa
open Go.RowKit Go.WideShapes Go.ChangeShapes
set_option linter.unusedVariables false

theorem own : ownKnob Try.prog.godebug = none := by kernel_rfl
theorem laidOut : laidOutB Try.prog = true := by kernel_rfl

/-- A part of a set. -/
class Sub (Y X : Nat → Prop) : Prop where
  sub : ∀ k, Y k → X k
instance (X : Nat → Prop) : Sub X X := ⟨fun _ h => h⟩

/-- Behind w, of the old blocks only those of X have turned. -/
structure Chg (X : Nat → Prop) (w w' : World) : Prop where
  os : w'.os = w.os
  tape : w'.tape = w.tape
  output : w'.output = w.output
  size : w.heap.size ≤ w'.heap.size
  block : ∀ k, k < w.heap.size → ¬ X k → w'.heap[k]? = w.heap[k]?
namespace Chg
variable {X : Nat → Prop} {w w1 w2 : World}
theorem refl (X : Nat → Prop) (w : World) : Chg X w w := ⟨rfl, rfl, rfl, Nat.le_refl _, fun _ _ _ => rfl⟩
theorem trans (h : Chg X w w1) (h2 : Chg X w1 w2) : Chg X w w2 :=
  ⟨h2.os.trans h.os, h2.tape.trans h.tape, h2.output.trans h.output, Nat.le_trans h.size h2.size, fun k hk hX => (h2.block k (Nat.lt_of_lt_of_le hk h.size) hX).trans (h.block k hk hX)⟩
theorem below (h : Below w.heap.size w w1) : Chg X w w1 := ⟨h.os, h.tape, h.output, h.size, fun k hk _ => h.block k hk⟩
theorem setCell (h : Chg X w w1) {g i : Nat} (hg : X g) (v : Value) : Chg X w (w1.setCell ⟨g, i, none⟩ v) := by
  refine ⟨h.os, h.tape, h.output, ?_, fun k hk hne => ?_⟩
  · show _ ≤ (w1.heap.modify _ _).size
    rw [Array.size_modify]
    exact h.size
  · rw [Below.heap_setCell _ _ _ _ (fun e => hne (by have e' : k = g := e; rw [e']; exact hg))]
    exact h.block k hk hne
theorem alloc (h : Chg X w w1) (o : Obj) : Chg X w (w1.alloc o) := h.trans (below ((Below.refl _ _).alloc (Nat.le_refl _) _))
theorem drew (h : Chg X w w1) : Chg X w w1.drew := ⟨h.os, h.tape, h.output, h.size, h.block⟩
theorem toBelow (h : Chg X w w1) {B : Nat} (hX : ∀ k, X k → B ≤ k) (hB : B ≤ w.heap.size) : Below B w w1 :=
  ⟨h.os, h.tape, h.output, h.size, fun k hk => h.block k (by omega) (fun hx => by have := hX k hx; omega)⟩
theorem cell (h : Chg X w w1) {b o : Nat} {v : Value} (hc : w.cell? ⟨b, o, none⟩ = some v) (hb : ¬ X b) : w1.cell? ⟨b, o, none⟩ = some v :=
  (World.cell?_of_block (a := ⟨b, o, none⟩) (h.block b (cell_lt hc) hb)).trans hc
end Chg
theorem block_add (a : Addr) (i : Nat) : (a.add i).block = a.block := by
  unfold Addr.add
  split <;> rfl
theorem Chg.cellA {X : Nat → Prop} {w w1 : World} (h : Chg X w w1) {a : Addr} {v : Value} (hc : w.cell? a = some v) (hb : ¬ X a.block) : w1.cell? a = some v := by
  have hlt : a.block < w.heap.size := by
    unfold World.cell? at hc
    by_cases hb : a.block < w.heap.size
    · exact hb
    · simp [show w.heap[a.block]? = none from Array.getElem?_eq_none (by omega)] at hc
  exact (World.cell?_of_block (h.block _ hlt hb)).trans hc
theorem add_none (b o i : Nat) : (⟨b, o, none⟩ : Addr).add i = ⟨b, o + i, none⟩ := by
  unfold Addr.add
  by_cases h : i = 0
  · subst h; simp
  · simp [h]

/-- A slice of bytes whose block does not turn. -/
def RowAt (w : World) (X : Nat → Prop) (v : Value) (l : List UInt8) : Prop :=
  ∃ A cap, v = .slice A l.length cap ∧ l.length ≤ 9223372036854775807 ∧ (A = none → cap = 0) ∧ (l = [] ∨ ∃ ad, A = some ad ∧ ¬ X ad.block ∧ ∀ i, (hi : i < l.length) → w.cell? (ad.add i) = some (.int .u8 (l[i].toNat : Int)))
theorem RowAt.chg {w w' : World} {X Y : Nat → Prop} [Sub Y X] {v : Value} {l : List UInt8} (h : RowAt w X v l) (hc : Chg Y w w') : RowAt w' X v l := by
  obtain ⟨A, cap, rfl, hl, hA, h⟩ := h
  refine ⟨A, cap, rfl, hl, hA, ?_⟩
  rcases h with h | ⟨ad, rfl, hb, h⟩
  · exact .inl h
  · exact .inr ⟨ad, rfl, hb, fun i hi => hc.cellA (h i hi) (fun hy => hb (Sub.sub (Y := Y) (X := X) _ (block_add ad i ▸ hy)))⟩

/-- What a lane is, whoever keeps it. -/
structure LS where
  room : Nat
  cut : Bool
  asked : Int
  got : Int
  lost : Int
  Q : List (List UInt8)
def LS.fine (x : LS) : Prop := (1 ≤ x.room ∧ x.room ≤ 1000) ∧ x.Q.length ≤ x.room ∧ x.asked = x.got + x.lost + x.Q.length ∧ 0 ≤ x.got ∧ 0 ≤ x.lost ∧ x.asked ≤ 1000000
def LS.put (x : LS) (b : List UInt8) : LS :=
  if x.cut then { x with asked := x.asked + 1, lost := x.lost + 1 } else if x.Q.length = x.room then { x with asked := x.asked + 1, lost := x.lost + 1 } else { x with asked := x.asked + 1, Q := x.Q ++ [b] }
def LS.putE (x : LS) : Int := if x.cut then 7 else if x.Q.length = x.room then 3 else 0
def LS.get (x : LS) : LS := match x.Q with
  | [] => x
  | _ :: r => { x with got := x.got + 1, Q := r }
def LS.lose (x : LS) : LS := match x.Q with
  | [] => x
  | _ :: r => { x with lost := x.lost + 1, Q := r }
def LS.down (x : LS) : LS := { x with cut := true, lost := x.lost + x.Q.length, Q := [] }
def LS.heal (x : LS) : LS := { x with cut := false }

/-- Its seven cells. -/
def laneCells (rg first : Nat) (x : LS) : Array Value :=
  #[.slice (some ⟨rg, 0, none⟩) x.room x.room, .int .i64 first, .int .i64 x.Q.length, .bool x.cut, .int .i64 x.asked, .int .i64 x.got, .int .i64 x.lost]
/-- What is on the way lies in the ring. -/
def RingAt (w : World) (X : Nat → Prop) (rg room first : Nat) (Q : List (List UInt8)) : Prop :=
  ∃ rc, w.heap[rg]? = some (.cells rc 29 (0, 0)) ∧ rc.size = room ∧ ∀ i, (hi : i < Q.length) → ∃ v, rc[(first + i) % room]? = some v ∧ RowAt w X v Q[i]
theorem RingAt.chg {w w' : World} {X Y : Nat → Prop} [Sub Y X] {rg room first : Nat} {Q : List (List UInt8)} (h : RingAt w X rg room first Q) (hc : Chg Y w w') (hr : w'.heap[rg]? = w.heap[rg]?) : RingAt w' X rg room first Q := by
  obtain ⟨rc, h1, h2, h3⟩ := h
  exact ⟨rc, hr.trans h1, h2, fun i hi => let ⟨v, h4, h5⟩ := h3 i hi; ⟨v, h4, h5.chg hc⟩⟩
def LaneAt (w : World) (X : Nat → Prop) (g rg : Nat) (x : LS) : Prop :=
  ∃ first, w.heap[g]? = some (.cells (laneCells rg first x) 49 (0, 0)) ∧ g ≠ rg ∧ first < x.room ∧ RingAt w X rg x.room first x.Q

theorem LaneAt.chg {w w' : World} {X Y : Nat → Prop} [Sub Y X] {g rg : Nat} {x : LS} (h : LaneAt w X g rg x) (hc : Chg Y w w') (hg : w'.heap[g]? = w.heap[g]?) (hr : w'.heap[rg]? = w.heap[rg]?) : LaneAt w' X g rg x := by
  obtain ⟨first, h1, h2, h3, h4⟩ := h
  exact ⟨first, hg.trans h1, h2, h3, h4.chg hc hr⟩

theorem len_any (g : Nat) (n : Int) (w : World) (hc : w.cell? ⟨g, 2, none⟩ = some (.int .i64 n)) : Calls Try.prog 10 #[.pointer (some ⟨g, 0, none⟩)] w fun e w' => e = .returned (.int .i64 n) ∧ w = w' := by
  go_enter Try.func10, Try.ntmps10
  go_wp2
  go_ret
  exact ⟨rfl, rfl⟩
theorem down_any (g : Nat) (n : Bool) (w : World) (hc : w.cell? ⟨g, 3, none⟩ = some (.bool n)) : Calls Try.prog 19 #[.pointer (some ⟨g, 0, none⟩)] w fun e w' => e = .returned (.bool n) ∧ w = w' := by
  go_enter Try.func19, Try.ntmps19
  go_wp2
  go_ret
  exact ⟨rfl, rfl⟩
theorem heal_any (X Y : Nat → Prop) [Sub Y X] (g rg : Nat) (x : LS) (w : World) (hX : Y g) (hl : LaneAt w X g rg x) : Calls Try.prog 16 #[.pointer (some ⟨g, 0, none⟩)] w fun e w' => e = .returned (.tuple #[]) ∧ Chg Y w w' ∧ LaneAt w' X g rg x.heal := by
  obtain ⟨first, h1, h2, h3, h4⟩ := hl
  have z : w.frozen? ⟨g, 3, none⟩ = false := frozen_of_row w g 3 _ 49 h1
  have m : w.cell? ⟨g, 3, none⟩ = some (.bool x.cut) := cell_of_row w g 3 _ 49 (0, 0) h1
  have H1 := hide h1; clear h1
  go_enter Try.func16, Try.ntmps16
  go_wp2
  go_end0
  exact ⟨rfl, (Chg.refl Y w).setCell hX _, first, heap_setCell_same _ g 3 _ 49 _ H1.out, h2, h3, h4.chg ((Chg.refl Y w).setCell hX _) (Below.heap_setCell _ _ _ _ (fun e => h2 e.symm))⟩

theorem counts_any (g : Nat) (a b c : Int) (w : World) (h0 : w.cell? ⟨g, 4, none⟩ = some (.int .i64 a)) (h1 : w.cell? ⟨g, 5, none⟩ = some (.int .i64 b)) (h2 : w.cell? ⟨g, 6, none⟩ = some (.int .i64 c)) :
    Calls Try.prog 13 #[.pointer (some ⟨g, 0, none⟩)] w fun e w' => e = .returned (.tuple #[.int .i64 a, .int .i64 b, .int .i64 c]) ∧ Below w.heap.size w w' := by
  go_enter Try.func13, Try.ntmps13
  go_wp2
  go_region
  go_wp2
  refine bodyPost_ret (v := .tuple #[.int .i64 a, .int .i64 b, .int .i64 c]) (by simp [results, Try.results13, go_sem]) rfl ⟨rfl, (Below.refl _ _).drew⟩

theorem tmod_nat (a b : Nat) : Int.tmod (a : Int) (b : Int) = ((a % b : Nat) : Int) := by
  rw [Int.tmod_eq_emod_of_nonneg (by omega)]
  omega

/-- What taking the eldest leaves. -/
def TakePost (X Y : Nat → Prop) (g rg : Nat) (x : LS) (w : World) (e : Ending) (w' : World) : Prop :=
  (x.Q = [] ∧ e = .returned (.tuple #[.slice none 0 0, .bool false]) ∧ w = w') ∨
  (∃ q r v, x.Q = q :: r ∧ e = .returned (.tuple #[v, .bool true]) ∧ RowAt w' X v q ∧ Chg Y w w' ∧ LaneAt w' X g rg { x with Q := r })

theorem take_any (X Y : Nat → Prop) [Sub Y X] (g rg : Nat) (x : LS) (w : World) (hX : Y g) (hf : x.fine) (hl : LaneAt w X g rg x) :
    Calls Try.prog 20 #[.pointer (some ⟨g, 0, none⟩)] w (TakePost X Y g rg x w) := by
  obtain ⟨first, h1, h2, h3, h4⟩ := hl
  obtain ⟨⟨r0, r1⟩, hql, -⟩ := hf
  obtain ⟨room, cut, asked, got, lost, Q⟩ := x
  simp only at r0 r1 hql h3 h4
  rcases Q with _ | ⟨q, r⟩
  · have m2 : w.cell? ⟨g, 2, none⟩ = some (.int .i64 0) := cell_of_row w g 2 _ 49 (0, 0) h1
    clear h1
    go_enter Try.func20, Try.ntmps20
    go_wp2
    go_ret2
    exact .inl ⟨rfl, rfl, rfl⟩
  · have z1 : w.frozen? ⟨g, 1, none⟩ = false := frozen_of_row w g 1 _ 49 h1
    have z2 : w.frozen? ⟨g, 2, none⟩ = false := frozen_of_row w g 2 _ 49 h1
    have m0 : w.cell? ⟨g, 0, none⟩ = some (.slice (some ⟨rg, 0, none⟩) room room) := cell_of_row w g 0 _ 49 (0, 0) h1
    have m1 : w.cell? ⟨g, 1, none⟩ = some (.int .i64 first) := cell_of_row w g 1 _ 49 (0, 0) h1
    have m2 : w.cell? ⟨g, 2, none⟩ = some (.int .i64 (((q :: r).length : Nat) : Int)) := cell_of_row w g 2 _ 49 (0, 0) h1
    have H1 := hide h1; clear h1
    obtain ⟨rc, k1, k2, k3⟩ := h4
    obtain ⟨v, k4, k5⟩ := k3 0 (by simp)
    rw [Nat.add_zero, Nat.mod_eq_of_lt h3] at k4
    have mv : w.cell? ⟨rg, first, none⟩ = some v := by rw [cell_of_row w rg first rc 29 (0, 0) k1]; exact k4
    have hl0 : (q :: r).length = r.length + 1 := rfl
    rw [hl0] at m2 hql
    have e0 : (0 : Int) ≤ (first : Int) := by omega
    have e1 : (first : Int) < (room : Int) := by omega
    have e2 : IntKind.i64.wrap ((first : Int) + 1) = (first : Int) + 1 := IntWalk.i64_in _ ⟨by omega, by omega⟩
    have e3 : Int.tmod ((first : Int) + 1) room = (((first + 1) % room : Nat) : Int) := by rw [← tmod_nat]; rfl
    have e4 : (room : Int) ≠ 0 := by omega
    have K1 := hide k1; have K3 := hide k3; have K5 := hide k5
    clear k1 k3 k5
    go_enter Try.func20, Try.ntmps20
    go_wp2_with fail
    go_region
    go_wp2_with fail
    refine wp_region_tail 14 (by kernel_rfl) (by kernel_rfl) (fun u hu => ?_)
    have d0 : u.cell? ⟨g, 0, none⟩ = some (.slice (some ⟨rg, 0, none⟩) room room) := by rw [hu]; exact m0
    have d1 : u.cell? ⟨g, 1, none⟩ = some (.int .i64 first) := by rw [hu]; exact m1
    have d2 : u.cell? ⟨g, 2, none⟩ = some (.int .i64 (((r.length + 1 : Nat)) : Int)) := by rw [hu]; exact m2
    have y1 : u.frozen? ⟨g, 1, none⟩ = false := by rw [hu]; exact z1
    have y2 : u.frozen? ⟨g, 2, none⟩ = false := by rw [hu]; exact z2
    have HU : Hid (u.heap = w.heap) := by show u.heap = w.heap; rw [hu]; rfl
    have HC := hide (show Chg Y w u by rw [hu]; exact (Chg.refl _ _).drew.drew)
    clear hu m0 m1 m2 mv z1 z2
    simp only [List.take_succ_cons, List.take_zero, List.drop_succ_cons, List.drop_zero]
    repeat (first | go_big_quiet_skip | (go_big_quiet_want; go_big_quiet_op; go_big_quiet_on))
    refine wpQuiet_nil ?_
    go_wp2_with fail
    go_ret2
    have ef : ((first : Int) + 1) % (room : Int) = (((first + 1) % room : Nat) : Int) := by simp
    rw [ef]
    have HC' := (HC.out.setCell (i := 1) hX (.int .i64 (((first + 1) % room : Nat) : Int))).setCell (i := 2) hX (.int .i64 (r.length : Int))
    refine .inr ⟨q, r, v, rfl, rfl, K5.out.chg HC', HC', (first + 1) % room, ?_, h2, Nat.mod_lt _ (by omega), rc, ?_, k2, fun i hi => ?_⟩
    · exact heap_setCell_same _ g 2 _ 49 _ (heap_setCell_same _ g 1 _ 49 _ (by rw [HU.out]; exact H1.out))
    · rw [Below.heap_setCell _ _ _ _ (fun e => h2 e.symm), Below.heap_setCell _ _ _ _ (fun e => h2 e.symm), HU.out]
      exact K1.out
    · obtain ⟨v', k6, k7⟩ := K3.out (i + 1) (by simp; exact hi)
      refine ⟨v', ?_, (by simpa using k7.chg HC')⟩
      show rc[((first + 1) % room + i) % room]? = some v'
      rw [Nat.mod_add_mod, show first + 1 + i = first + (i + 1) by omega]
      exact k6
end Go.Proofs.Ytekljcgljoianaa

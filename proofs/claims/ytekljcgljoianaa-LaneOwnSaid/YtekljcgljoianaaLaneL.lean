/-
  A lane beside a row of strings of what was put: what the laws on order carry.
-/
import Derived.Test.YtekljcgljoianaaLaneK
import Derived.Deep.AppendLies
namespace Go.Proofs.Ytekljcgljoianaa
open Go.RowKit Go.WideShapes Go.ChangeShapes
set_option linter.unusedVariables false

theorem info9 : (Try.prog.info? 9).map (fun i => (i.zero, i.size, i.bytes)) = some (some (.string ⟨#[]⟩), 1, 16) := by kernel_rfl
/-- A text as the string of its bytes. -/
def strV (b : List UInt8) : Value := .string ⟨b.toArray⟩
/-- The lane's blocks and the row's. -/
def XO (g rg : Nat) (A : Option Addr) (k : Nat) : Prop := k = g ∨ k = rg ∨ ∃ a, A = some a ∧ k = a.block
instance (g rg : Nat) (A : Option Addr) : Sub (YL g rg) (XO g rg A) := ⟨fun k hk => by rcases hk with h | h; exact .inl h; exact .inr (.inl h)⟩

theorem own_chg {w w' : World} {Y : Nat → Prop} {base : Nat} {e : TypeId} {size : Nat} {v : Value} {n : Nat} {xs : List Value} (h : w.ownsRow base e size v n xs) (hc : Chg Y w w') (hY : ∀ k, Y k → k < base) : w'.ownsRow base e size v n xs := by
  obtain ⟨h1, h2⟩ := h
  refine ⟨h1, ?_⟩
  rcases h2 with h2 | ⟨g, cap, cur, rfl, hb, hg, r⟩
  · exact .inl h2
  · exact .inr ⟨g, cap, cur, rfl, hb, (hc.block g (Array.getElem?_eq_some_iff.1 hg).1 (fun hy => by have := hY _ hy; omega)).trans hg, r⟩

/-- Rows lie in blocks that are there. -/
theorem RowAt.reX {w : World} {X X' : Nat → Prop} {v : Value} {l : List UInt8} (h : RowAt w X v l) (hs : ∀ k, X' k → X k ∨ w.heap.size ≤ k) : RowAt w X' v l := by
  obtain ⟨A, cap, rfl, hl, hA, h⟩ := h
  refine ⟨A, cap, rfl, hl, hA, ?_⟩
  rcases h with h | ⟨ad, rfl, hb, h⟩
  · exact .inl h
  · cases l with
    | nil => exact .inl rfl
    | cons q r =>
      refine .inr ⟨ad, rfl, fun hy => ?_, h⟩
      rcases hs _ hy with h1 | h1
      · exact hb h1
      · have := cellA_lt (h 0 (by simp))
        rw [block_add] at this
        omega
theorem RowAt.both {w w' : World} {X X' : Nat → Prop} {v : Value} {l : List UInt8} (h : RowAt w' X v l) (h' : RowAt w X' v l) : RowAt w' X' v l := by
  obtain ⟨A, cap, rfl, hl, hA, h⟩ := h
  obtain ⟨A', cap', he, _, _, h'⟩ := h'
  injection he with e1 e2 e3
  subst e1
  refine ⟨A, cap, rfl, hl, hA, ?_⟩
  rcases h with h | ⟨ad, rfl, hb, h⟩
  · exact .inl h
  · rcases h' with h' | ⟨ad', ha, hb', _⟩
    · exact .inl h'
    · injection ha with ha
      subst ha
      exact .inr ⟨ad, rfl, hb', h⟩
theorem LaneAt.reX {w : World} {X X' : Nat → Prop} {g rg : Nat} {x : LS} (h : LaneAt w X g rg x) (hs : ∀ k, X' k → X k ∨ w.heap.size ≤ k) : LaneAt w X' g rg x := by
  obtain ⟨first, h1, h2, h3, rc, h4, h5, h6⟩ := h
  exact ⟨first, h1, h2, h3, rc, h4, h5, fun i hi => let ⟨v, k1, k2⟩ := h6 i hi; ⟨v, k1, k2.reX hs⟩⟩

/-- What the laws on order carry: the lane; the row of what was put; what is on the way is among what was put from 'at' on. -/
structure OrderAt (w : World) (B g rg : Nat) (A : Option Addr) (c : Nat) (x : LS) (P : List (List UInt8)) (at_ : Nat) : Prop where
  lane : LaneAt w (XO g rg A) g rg x
  fine : x.fine
  row : w.ownsRow B 9 1 (.slice A P.length c) P.length (P.map strV)
  sub : x.Q.Sublist (P.drop at_)
  le : at_ ≤ P.length
  hg : g < B
  hrg : rg < B
theorem own_block {w : World} {B : Nat} {e : TypeId} {A : Option Addr} {n c : Nat} {xs : List Value} (h : w.ownsRow B e 1 (.slice A n c) n xs) : ∀ a, A = some a → B ≤ a.block ∧ a.block < w.heap.size := by
  intro a ha
  subst ha
  exact h.lt a.block rfl
theorem OrderAt.lt {w : World} {B g rg : Nat} {A : Option Addr} {c : Nat} {x : LS} {P : List (List UInt8)} {at_ : Nat} (h : OrderAt w B g rg A c x P at_) : ∀ k, XO g rg A k → k < w.heap.size := by
  intro k hk
  rcases hk with rfl | rfl | ⟨a, ha, rfl⟩
  · exact h.lane.size.1
  · exact h.lane.size.2.1
  · exact (own_block h.row a ha).2
/-- The lane goes on; the row stays. -/
theorem OrderAt.lane_on {w w' : World} {B g rg : Nat} {A : Option Addr} {c : Nat} {x y : LS} {P : List (List UInt8)} {at_ at' : Nat} (h : OrderAt w B g rg A c x P at_) (hc : Chg (YL g rg) w w') (hl : LaneAt w' (XO g rg A) g rg y) (hf : y.fine) (hs : y.Q.Sublist (P.drop at')) (hle : at' ≤ P.length) :
    OrderAt w' B g rg A c y P at' :=
  ⟨hl, hf, own_chg h.row hc (fun k hk => by rcases hk with rfl | rfl; exact h.hg; exact h.hrg), hs, hle, h.hg, h.hrg⟩
theorem OrderAt.below {w w' : World} {B g rg : Nat} {A : Option Addr} {c : Nat} {x : LS} {P : List (List UInt8)} {at_ : Nat} (h : OrderAt w B g rg A c x P at_) (hw : Below w.heap.size w w') : OrderAt w' B g rg A c x P at_ := by
  refine h.lane_on (Chg.below hw) (h.lane.chg (Chg.below (X := XO g rg A) hw) (hw.block _ h.lane.size.1) (hw.block _ h.lane.size.2.1)) h.fine h.sub h.le
/-- The same where the lane is ahead of the row. -/
structure OrderPre (w : World) (B g rg : Nat) (A : Option Addr) (c : Nat) (x : LS) (P : List (List UInt8)) (at_ : Nat) : Prop where
  lane : LaneAt w (XO g rg A) g rg x
  fine : x.fine
  row : w.ownsRow B 9 1 (.slice A P.length c) P.length (P.map strV)
  le : at_ ≤ P.length
  hg : g < B
  hrg : rg < B
theorem OrderPre.below {w w' : World} {B g rg : Nat} {A : Option Addr} {c : Nat} {x : LS} {P : List (List UInt8)} {at_ : Nat} (h : OrderPre w B g rg A c x P at_) (hw : Below w.heap.size w w') : OrderPre w' B g rg A c x P at_ :=
  ⟨h.lane.chg (Chg.below (X := XO g rg A) hw) (hw.block _ h.lane.size.1) (hw.block _ h.lane.size.2.1), h.fine, own_chg h.row (Chg.below (X := YL g rg) hw) (fun k hk => by rcases hk with rfl | rfl; exact h.hg; exact h.hrg), h.le, h.hg, h.hrg⟩
/-- The row has grown by what was put. -/
theorem OrderAt.grow {w w' : World} {B g rg p c' : Nat} {A : Option Addr} {c : Nat} {x : LS} {P : List (List UInt8)} {at_ : Nat} {b : List UInt8} {Q : List (List UInt8)} (h : OrderPre w B g rg A c x P at_) (hg : w.grownBy w' (Value.slice A P.length c).ownBlock)
    (hr : w'.ownsRow B 9 1 (.slice (some ⟨p, 0, none⟩) (P.length + 1) c') (P.length + 1) (P.map strV ++ [strV b])) (hp : (Value.slice A P.length c).ownBlock = some p ∨ w.heap.size ≤ p) (hQ : x.Q = Q ++ [b]) (hs : Q.Sublist (P.drop at_)) :
    OrderAt w' B g rg (some ⟨p, 0, none⟩) c' x (P ++ [b]) at_ := by
  have hch : Chg (XO g rg A) w w' := ⟨hg.os, hg.tape, hg.output, hg.size, fun k hk hx => hg.block k hk (fun he => hx (by
    cases A with
    | none => cases he
    | some a => injection he with he; exact .inr (.inr ⟨a, rfl, he⟩)))⟩
  have hne : ∀ k, k < B → some k ≠ (Value.slice A P.length c).ownBlock := fun k hk he => by
    cases A with
    | none => cases he
    | some a =>
      injection he with he
      have := (own_block h.row a rfl).1
      omega
  have hX : ∀ k, XO g rg (some ⟨p, 0, none⟩) k → XO g rg A k ∨ w.heap.size ≤ k := fun k hk => by
    rcases hk with h1 | h1 | ⟨a, ha, h1⟩
    · exact .inl (.inl h1)
    · exact .inl (.inr (.inl h1))
    · injection ha with ha
      subst ha
      rcases hp with hp | hp
      · cases A with
        | none => cases hp
        | some a => injection hp with hp; exact .inl (.inr (.inr ⟨a, rfl, h1.trans hp.symm⟩))
      · exact .inr (by rw [h1]; exact hp)
  refine ⟨?_, h.fine, by simpa using hr, ?_, by simp; have := h.le; omega, h.hg, h.hrg⟩
  · obtain ⟨first, o1, o2, o3, rc, o4, o5, o6⟩ := h.lane
    refine ⟨first, (hg.block _ h.lane.size.1 (hne _ h.hg)).trans o1, o2, o3, rc, (hg.block _ h.lane.size.2.1 (hne _ h.hrg)).trans o4, o5, fun i hi => ?_⟩
    obtain ⟨v, k1, k2⟩ := o6 i hi
    exact ⟨v, k1, (k2.chg hch).both (k2.reX hX)⟩
  · rw [hQ, List.drop_append_of_le_length h.le]
    exact hs.append (List.Sublist.refl _)
end Go.Proofs.Ytekljcgljoianaa

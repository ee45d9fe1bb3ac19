/-
  A region that draws its order, whose operations read, whose calls make memory, and whose last operations come in a forced order: one walk.
-/
import Derived.Test.YtehhldpmhlocdaaDoorMade
namespace Go.Proofs.YtehhldpmhlocdaaDoor
open Go.RowKit
set_option linter.unusedVariables false

theorem rise_sound {P : Program} {ops : Array Oper} {md : Region.Mode} {w : World} {n k : Nat} {L : Array Bool → Act → Prop} {Q' : Exit → Act → World → Prop}
    (hL : ∀ listed a u, L listed a → Below w.heap.size w u → wpAny P md ops Q' k listed a u) :
    ∀ (f : Nat) (listed : Array Bool) (a : Act) (u : World), wpAnyR P md ops w n L f listed a → Below w.heap.size w u → wpAny P md ops Q' (f + k) listed a u
  | 0, listed, a, u, h, hu => by rw [Nat.zero_add]; exact hL _ _ _ h hu
  | f + 1, listed, a, u, h, hu => by
    rw [show f + 1 + k = (f + k) + 1 by omega]
    refine ⟨fun h0 => absurd h0 h.1, fun i hi => ?_⟩
    obtain ⟨hin, h1⟩ := h.2 i hi
    obtain ⟨hiun, oi, hoi, _⟩ := mem_ready.1 hi
    unfold riseOp at h1
    unfold wpOp
    simp only [hoi] at h1 ⊢
    split
    · rename_i hw
      simp only [hw, if_true] at h1
      obtain ⟨v, hv, hK⟩ := h1
      have h5 := hv ⟨u, hu⟩
      refine .inl ?_
      unfold Oper.wp
      generalize (execOp a.eval oi).run P u = q at h5 ⊢
      cases q with
      | ok nx w' =>
        cases nx <;> simp only [Oper.quietUpon] at h5 <;> simp only [Oper.upon]
        case value x =>
          obtain ⟨e1, e2⟩ := h5
          rw [e1, e2]
          exact rise_sound hL f _ _ _ hK hu
        case skip =>
          obtain ⟨e1, e2⟩ := h5
          rw [e1, ← e2]
          exact rise_sound hL f _ _ _ hK hu
        case enter fn args =>
          obtain ⟨e1, hc⟩ := h5
          rw [e1]
          refine hc.mono fun e w'' ⟨he, hw''⟩ => ?_
          subst he
          exact rise_sound hL f _ _ _ hK (hu.trans (hw''.mono hu.size))
      | halt x w' => simp only [Oper.quietUpon] at h5
    · rename_i hw
      simp only [hw] at h1
      exact rise_sound hL f _ _ _ h1 hu

def riseB (md : Region.Mode) (ops : Array Oper) (n : Nat) : Bool :=
  Region.noSelect ops && decide (n < ops.size) && Region.sinkB md ops n && Region.chainB md ops n && lexMade md ops n (ops.size - n) n 0 (Array.replicate ops.size false)

theorem wp_region_rise {P : Program} {id : Nat} {Q : Exit → Act → World → Prop} {a : Act} {w0 : World} {l : List Oper} (n : Nat) (hm : P.follows .mixedOrders = true) (hB : riseB .any l.toArray n = true)
    (h : ∀ w, w = w0.drew → wpRise P l.toArray w (fun a' => ∀ u, Below w0.heap.size w0 u → wpList P l.toArray Q (l.drop n) a' u) (l.take n) a) :
    (Code.region id l.toArray true).wp P Q a w0 := by
  simp only [riseB, Bool.and_eq_true, decide_eq_true_eq] at hB
  obtain ⟨⟨⟨⟨hsel, hn⟩, hs⟩, hc⟩, hlex⟩ := hB
  have hn' : n < l.length := by simpa using hn
  have htl : (l.take n).length = n := by simp; omega
  have hdl : (l.drop n).length = l.toArray.size - n := by simp
  have inv0 : HeadInv .any l.toArray n (Array.replicate l.toArray.size false) :=
    ⟨by simp, fun j oj _ hl => (by rw [getD_replicate_false] at hl; cases hl), fun t _ ht => getD_in (by simpa using ht) (getD_replicate_false _ _)⟩
  have H := wpAnyR_lex (md := .any) (w := w0.drew) (g := l.toArray.size - n) hsel hs hc hn (l.take n) 0 _ a (fun j hj => by
    have hj' : j < n := by rw [htl] at hj; exact hj
    simp [hj']) inv0 (by rw [htl]; exact hlex) (h _ rfl)
  rw [htl] at H
  refine wp_region_any hm ?_
  have hdr : ∀ {u : World}, Below w0.drew.heap.size w0.drew u → Below w0.heap.size w0 u := fun hu => ⟨hu.os, hu.tape, hu.output, hu.size, hu.block⟩
  have := rise_sound (w := w0.drew) (md := .any) (Q' := Q) (k := l.toArray.size - n)
    (fun listed a' u hL hu => by
      have := wpAny_of_seq (md := .any) (Q' := Q) (l.drop n) n listed a' u (fun j => by simp [List.getElem?_drop]) (by rw [hdl]; exact hL.1) (hL.2 u (hdr hu))
      rwa [hdl] at this) n _ a w0.drew H (Below.refl _ _)
  rw [show n + (l.toArray.size - n) = l.toArray.size by omega] at this
  exact this
end Go.Proofs.YtehhldpmhlocdaaDoor

/-
  A lane and the reference's: the statements' step at both, and their own first step.
-/
import Derived.Test.YtekljcgljoianaaLaneF
import Derived.Lib.BufferRead
namespace Go.Proofs.Ytekljcgljoianaa
open Go.RowKit Go.WideShapes Go.ChangeShapes
set_option linter.unusedVariables false

/-- 'string(b)' of such a row. -/
theorem convert_row {w : World} {X : Nat → Prop} {A : Option Addr} {n cap : Nat} {l : List UInt8} (h : RowAt w X (.slice A n cap) l) : (convert 29 9 (.slice A n cap)).run Try.prog w = .ok (.string ⟨l.toArray⟩) w := by
  obtain ⟨A', cap', he, hl, hA, h⟩ := h
  injection he with e1 e2 e3
  subst e1 e2 e3
  rcases h with rfl | ⟨ad, rfl, hX, h⟩
  · cases A with
    | none =>
      exact Go.Lib.run_convert_nil_bytes w 29 9 5 cap Try.underlying29 Try.underlying5 Try.underlying9
    | some a =>
      exact run_convert_bytes_back w 29 9 5 a cap [] Try.underlying29 Try.underlying5 Try.underlying9 (fun j hj => by simp at hj)
  · exact run_convert_bytes_back w 29 9 5 _ cap l Try.underlying29 Try.underlying5 Try.underlying9 h
theorem RowAt.form {w : World} {X : Nat → Prop} {v : Value} {l : List UInt8} (h : RowAt w X v l) : ∃ A cap, v = .slice A l.length cap := by
  obtain ⟨A, cap, rfl, -⟩ := h
  exact ⟨A, cap, rfl⟩

/-- What a step does. -/
def LS.step (x : LS) (d : Int) (b : List UInt8) : LS := if d = 0 then x.put b else if d = 1 then x.get else if d = 2 then x.lose else if d = 3 then x.down else x.heal

theorem LS.fine.put {x : LS} (h : x.fine) (hK : x.asked < 1000000) (b : List UInt8) : (x.put b).fine := by
  obtain ⟨h1, h2, h3, h4, h5, h6⟩ := h
  unfold LS.put
  split
  · exact ⟨h1, h2, by simp only; omega, h4, by simp only; omega, by simp only; omega⟩
  · split
    · exact ⟨h1, h2, by simp only; omega, h4, by simp only; omega, by simp only; omega⟩
    · exact ⟨h1, by simp; omega, by simp; omega, h4, h5, by simp only; omega⟩
theorem LS.fine.get {x : LS} (h : x.fine) : x.get.fine := by
  unfold LS.get
  obtain ⟨h1, h2, h3, h4, h5, h6⟩ := h
  split
  · exact ⟨h1, h2, h3, h4, h5, h6⟩
  · rename_i hQ
    rw [hQ] at h2 h3
    simp only [List.length_cons] at h2 h3
    exact ⟨h1, by simp only; omega, by simp only; omega, by simp only; omega, h5, h6⟩
theorem LS.fine.down {x : LS} (h : x.fine) : x.down.fine := by
  obtain ⟨h1, h2, h3, h4, h5, h6⟩ := h
  exact ⟨h1, by simp [LS.down], by simp [LS.down]; omega, h4, by simp [LS.down]; omega, h6⟩
theorem LS.fine.step {x : LS} (h : x.fine) (hK : x.asked < 1000000) (d : Int) (b : List UInt8) : (x.step d b).fine ∧ (x.step d b).asked ≤ x.asked + 1 ∧ (x.step d b).room = x.room := by
  unfold LS.step
  split
  · refine ⟨h.put hK b, ?_⟩
    unfold LS.put
    split
    · exact ⟨Int.le_refl _, rfl⟩
    · split <;> exact ⟨Int.le_refl _, rfl⟩
  · split
    · refine ⟨h.get, ?_⟩
      unfold LS.get
      split
      · exact ⟨by omega, rfl⟩
      · exact ⟨by simp only; omega, rfl⟩
    · split
      · refine ⟨h.lose, ?_⟩
        unfold LS.lose
        split
        · exact ⟨by omega, rfl⟩
        · exact ⟨by simp only; omega, rfl⟩
      · split
        · exact ⟨h.down, by simp only [LS.down]; omega, rfl⟩
        · exact ⟨h, by simp only [LS.heal]; omega, rfl⟩

/-- A lane and the reference's, that are alike. -/
structure Both (w : World) (X : Nat → Prop) (g rg h : Nat) (x : LS) : Prop where
  lane : LaneAt w X g rg x
  ref : RefAt w X h x
  fine : x.fine
  xg : X g
  xr : X rg
  xh : X h
  only : ∀ k, X k → k = g ∨ k = rg ∨ k = h
  hg : h ≠ g
  hr : h ≠ rg
theorem Both.lt {w : World} {X : Nat → Prop} {g rg h : Nat} {x : LS} (hb : Both w X g rg h x) : ∀ k, X k → k < w.heap.size := by
  intro k hk
  obtain ⟨first, h1, h2, h3, rc, h4, -⟩ := hb.lane
  obtain ⟨L, h5, -⟩ := hb.ref
  rcases hb.only k hk with rfl | rfl | rfl
  · exact (Array.getElem?_eq_some_iff.1 h1).1
  · exact (Array.getElem?_eq_some_iff.1 h4).1
  · exact (Array.getElem?_eq_some_iff.1 h5).1

theorem LaneAt.size {w : World} {X : Nat → Prop} {g rg : Nat} {x : LS} (h : LaneAt w X g rg x) : g < w.heap.size ∧ rg < w.heap.size ∧ g ≠ rg := by
  obtain ⟨first, h1, h2, h3, rc, h4, -⟩ := h
  exact ⟨(Array.getElem?_eq_some_iff.1 h1).1, (Array.getElem?_eq_some_iff.1 h4).1, h2⟩
theorem RefAt.size {w : World} {X : Nat → Prop} {h : Nat} {x : LS} (hr : RefAt w X h x) : h < w.heap.size := by
  obtain ⟨L, h1, -⟩ := hr
  exact (Array.getElem?_eq_some_iff.1 h1).1
theorem Both.below {w w' : World} {X : Nat → Prop} {g rg h : Nat} {x : LS} (hb : Both w X g rg h x) (hw : Below w.heap.size w w') : Both w' X g rg h x :=
  ⟨hb.lane.chg (Chg.below (X := X) hw) (hw.block _ hb.lane.size.1) (hw.block _ hb.lane.size.2.1), hb.ref.chg (Chg.below (X := X) hw) (hw.block _ hb.ref.size), hb.fine, hb.xg, hb.xr, hb.xh, hb.only, hb.hg, hb.hr⟩
/-- The lane's blocks; the reference's block. -/
def YL (g rg : Nat) (k : Nat) : Prop := k = g ∨ k = rg
def YR (h : Nat) (k : Nat) : Prop := k = h
theorem Both.subL {w : World} {X : Nat → Prop} {g rg h : Nat} {x : LS} (hb : Both w X g rg h x) : Sub (YL g rg) X := ⟨fun k hk => by rcases hk with rfl | rfl; exact hb.xg; exact hb.xr⟩
theorem Both.subR {w : World} {X : Nat → Prop} {g rg h : Nat} {x : LS} (hb : Both w X g rg h x) : Sub (YR h) X := ⟨fun k hk => by obtain rfl : k = h := hk; exact hb.xh⟩
theorem Chg.sub {Y X : Nat → Prop} [s : Sub Y X] {w w' : World} (h : Chg Y w w') : Chg X w w' := ⟨h.os, h.tape, h.output, h.size, fun k hk hx => h.block k hk (fun hy => hx (s.sub _ hy))⟩

/-- The lane goes on; the reference's stays. -/
theorem RefAt.beside {w w' : World} {X : Nat → Prop} {g rg h : Nat} {x : LS} (hr : RefAt w X h x) (s : Sub (YL g rg) X) (hg : h ≠ g) (hrg : h ≠ rg) (hc : Chg (YL g rg) w w') : RefAt w' X h x :=
  hr.chg hc (hc.block _ hr.size (fun hy => by rcases hy with h1 | h1 <;> contradiction))
theorem LaneAt.beside {w w' : World} {X : Nat → Prop} {g rg h : Nat} {x : LS} (hl : LaneAt w X g rg x) (s : Sub (YR h) X) (hg : h ≠ g) (hrg : h ≠ rg) (hc : Chg (YR h) w w') : LaneAt w' X g rg x :=
  hl.chg hc (hc.block _ hl.size.1 (fun hy => hg (Eq.symm hy))) (hc.block _ hl.size.2.1 (fun hy => hrg (Eq.symm hy)))

set_option maxRecDepth 100000 in
set_option maxHeartbeats 2000000 in
theorem step_put (X : Nat → Prop) (g rg h : Nat) (x : LS) (A : Option Addr) (n cap : Nat) (b : List UInt8) (w : World) (hb : Both w X g rg h x) (hK : x.asked < 1000000) (hv : RowAt w X (.slice A n cap) b) (hn : n ≤ 140737488355328) :
    Calls Try.prog 18 #[.pointer (some ⟨g, 0, none⟩), .pointer (some ⟨h, 0, none⟩), .agg #[.int .i64 0, .slice A n cap]] w fun e w' => e = .returned (.bool true) ∧ Chg X w w' ∧ Both w' X g rg h (x.put b) := by
  haveI sL := hb.subL
  haveI sR := hb.subR
  have hlt := hb.lt
  have HB := hide hb; have HV := hide hv
  have hB1 := hide (hb.below ((Below.refl _ _).alloc (Nat.le_refl _) (.cells #[.int .i64 0, .slice A n cap] 38)))
  have hV1 := hide (hv.chg ((Chg.refl X w).alloc (.cells #[.int .i64 0, .slice A n cap] 38)))
  have hnX : ¬ YL g rg w.heap.size := fun hy => by have := hlt _ (sL.sub _ hy); omega
  have hnXR : ¬ YR h w.heap.size := fun hy => by have := hlt _ (sR.sub _ hy); omega
  have q := hb.lane.size
  have qh := hb.ref.size
  clear hb hv
  go_enter Try.func18, Try.ntmps18
  go_wp2_with fail
  refine (put_any X (YL g rg) g rg x A n cap b _ (.inl rfl) (.inr rfl) (fun k hk => by have := hlt k hk; simp; omega) HB.out.fine hK hB1.out.lane hV1.out hn).mono ?_
  rintro e w1 ⟨rfl, hc1, hl1⟩
  have HC1 := hide hc1; have HL1 := hide hl1
  have d1 : w1.cell? ⟨w.heap.size, 1, none⟩ = some (.slice A n cap) := hc1.cell (by simp) hnX
  have hR1 := hide (hB1.out.ref.beside sL HB.out.hg HB.out.hr hc1)
  have hV2 := hide (hV1.out.chg hc1)
  have hz1 := hc1.size
  simp at hz1
  clear hc1 hl1
  go_wp2_with fail
  refine (refPut_any X (YR h) h x A n cap b _ rfl (fun k hk => by have := hlt k hk; omega) HB.out.fine hK hR1.out hV2.out hn).mono ?_
  rintro e w2 ⟨rfl, hc2, hr2⟩
  have HC2 := hide hc2; have HR2 := hide hr2
  clear hc2 hr2
  go_wp2_with fail
  go_ret
  refine ⟨by simp, ((Chg.refl X w).alloc _).trans (HC1.out.sub.trans HC2.out.sub), HL1.out.beside sR HB.out.hg HB.out.hr HC2.out, HR2.out, HB.out.fine.put hK b, HB.out.xg, HB.out.xr, HB.out.xh, HB.out.only, HB.out.hg, HB.out.hr⟩
end Go.Proofs.Ytekljcgljoianaa

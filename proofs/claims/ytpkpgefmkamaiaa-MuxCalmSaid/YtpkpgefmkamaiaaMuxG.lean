/-
  A link that does steps: what is handed in, the statements' first step, and a link that did any steps.
-/
import Derived.Test.YtpkpgefmkamaiaaMuxF
import Derived.Deep.Slices
namespace Go.Proofs.Ytpkpgefmkamaiaa
open Go.RowKit
set_option linter.unusedVariables false

/-- A step that is told. -/
structure St where
  sel : Bool
  p : Int
  now : Int
def St.ok (x : St) : Prop := (-9223372036854775808 ≤ x.p ∧ x.p ≤ 9223372036854775807) ∧ (-9223372036854775808 ≤ x.now ∧ x.now ≤ 9223372036854775807)

/-- A slice of steps, as it lies below block number B. -/
def StepsAt (w : World) (B : Nat) (A : Option Addr) (n : Nat) (L : Nat → St) : Prop :=
  n ≤ 9223372036854775807 ∧ ∀ i, i < n → ∃ b o, A = some ⟨b, o, none⟩ ∧ b < B ∧ w.cell? ⟨b, o + i * 3, none⟩ = some (.bool (L i).sel) ∧ w.cell? ⟨b, o + i * 3 + 1, none⟩ = some (.int .i64 (L i).p) ∧
    w.cell? ⟨b, o + i * 3 + 2, none⟩ = some (.int .i64 (L i).now) ∧ (L i).ok
theorem StepsAt.below {w w' : World} {B : Nat} {A : Option Addr} {n : Nat} {L : Nat → St} (h : StepsAt w B A n L) (hb : Below B w w') : StepsAt w' B A n L :=
  ⟨h.1, fun i hi => by
    obtain ⟨b, o, hA, hlt, h1, h2, h3, h4⟩ := h.2 i hi
    exact ⟨b, o, hA, hlt, (hb.cell (by exact hlt)).trans h1, (hb.cell (by exact hlt)).trans h2, (hb.cell (by exact hlt)).trans h3, h4⟩⟩
theorem below_of_stepped {w w' : World} {g t B : Nat} {s f : Int} (h : Stepped w w' g t s f) (hB : B ≤ g) (hs : B ≤ w.heap.size) : Below B w w' :=
  ⟨h.1.os, h.1.tape, h.1.output, h.1.size, fun k hk => h.1.block k (by omega) (by intro e; injection e with e; omega)⟩

set_option maxHeartbeats 1000000 in
theorem awake_any (w : World) : Calls Try.prog 8 #[] w fun e w' => e = .returned (.bool true) ∧ Below w.heap.size w w' := by
  have q1 : stepS true 0 0 61 0 = ⟨1, 0, true⟩ := by kernel_rfl
  have q2 : stepS true 1 0 61 1 = ⟨1, 0, false⟩ := by kernel_rfl
  have q3 : stepS true 1 0 61 2 = ⟨2, 0, true⟩ := by kernel_rfl
  have T1 := fun (u : World) (g : Nat) hb => step_any g true 0 0 61 0 u hb (by decide) (by decide) ⟨by decide, by decide, by decide, by decide⟩
  have T2 := fun (u : World) (g : Nat) hb => step_any g true 1 0 61 1 u hb (by decide) (by decide) ⟨by decide, by decide, by decide, by decide⟩
  have T3 := fun (u : World) (g : Nat) hb => step_any g true 1 0 61 2 u hb (by decide) (by decide) ⟨by decide, by decide, by decide, by decide⟩
  rw [q1] at T1
  rw [q2] at T2
  rw [q3] at T3
  have H1 := hide T1; have H2 := hide T2; have H3 := hide T3
  clear T1 T2 T3 q1 q2 q3
  go_enter Try.func8, Try.ntmps8
  go_wp2_with fail
  refine (new_any _).mono ?_
  rintro e w1 ⟨rfl, rfl⟩
  go_wp2_with fail
  refine (H1.out _ _ (heap_alloc_new _ _)).mono ?_
  rintro e w2 ⟨rfl, hst2⟩
  have S2 := hide hst2; clear hst2
  go_wp2_with fail
  refine (H2.out _ _ S2.out.2).mono ?_
  rintro e w3 ⟨rfl, hst3⟩
  have S3 := hide hst3; clear hst3
  go_wp2_with fail
  refine (H3.out _ _ S3.out.2).mono ?_
  rintro e w4 ⟨rfl, hst4⟩
  have S4 := hide hst4; clear hst4
  go_wp2_with fail
  refine (state_any _ 2 _ (cell_of_row w4 _ 0 _ 41 (0, 0) S4.out.2)).mono ?_
  rintro e w5 ⟨rfl, rfl⟩
  go_wp2_with fail
  refine (bits_any _ 2 _ (cell_of_row w4 _ 0 _ 41 (0, 0) S4.out.2) (by decide)).mono ?_
  rintro e w5 ⟨rfl, rfl⟩
  have hbits : bitsS 2 = 8 := by decide
  go_wp2_with fail
  go_ret
  refine ⟨rfl, ?_⟩
  have h1 := S2.out.1.size
  have h2 := S3.out.1.size
  simp at h1
  exact ((Below.refl w.heap.size w).alloc (Nat.le_refl _) _).trans ((below_of_stepped S2.out (Nat.le_refl _) (by simp)).trans ((below_of_stepped S3.out (Nat.le_refl _) (by omega)).trans (below_of_stepped S4.out (Nat.le_refl _) (by omega))))

/-- A mux that lies in block g, sound. -/
def MuxAt (w : World) (g t : Nat) (s f : Int) : Prop := w.heap[g]? = some (.cells #[.int .i64 s, .int .i64 f] t (0, 0)) ∧ (0 ≤ s ∧ s ≤ 4) ∧ (0 ≤ f ∧ f ≤ 1099511627776)

def stepAny (sel : Bool) (s f p now : Int) : SM := if 0 ≤ now ∧ now ≤ 1099511627776 ∧ 0 ≤ p ∧ p ≤ 255 then stepS sel s f p now else ⟨s, f, false⟩
def stepErr (p now : Int) : Int := if 0 ≤ now ∧ now ≤ 1099511627776 ∧ 0 ≤ p ∧ p ≤ 255 then 0 else 1

/-- Step, whatever is told. -/
theorem step_all (g : Nat) (sel : Bool) (s f p now : Int) (w : World) (hm : MuxAt w g 41 s f) :
    Calls Try.prog 11 #[.pointer (some ⟨g, 0, none⟩), .bool sel, .int .i64 p, .int .i64 now] w fun e w' => e = .returned (.tuple #[.bool (stepAny sel s f p now).did, .int .i64 (stepErr p now)]) ∧
      w.grownBy w' (some g) ∧ MuxAt w' g 41 (stepAny sel s f p now).s (stepAny sel s f p now).f := by
  obtain ⟨hb, hs, hf⟩ := hm
  by_cases hok : 0 ≤ now ∧ now ≤ 1099511627776 ∧ 0 ≤ p ∧ p ≤ 255
  · unfold stepAny stepErr
    rw [if_pos hok, if_pos hok]
    have hk := stepS_ok sel s f p now hs hf hok
    exact (step_any g sel s f p now w hb hs hf hok).mono fun e w' ⟨h1, h2⟩ => ⟨h1, h2.1, h2.2, hk.1, hk.2⟩
  · unfold stepAny stepErr
    rw [if_neg hok, if_neg hok]
    refine (step_bad g sel p now w hok).mono fun e w' ⟨h1, h2⟩ => ?_
    subst h2
    exact ⟨h1, World.grownBy.refl _ _, hb, hs, hf⟩
theorem refStep_all (g : Nat) (sel : Bool) (s f p now : Int) (w : World) (hm : MuxAt w g 35 s f) :
    Calls Try.prog 12 #[.pointer (some ⟨g, 0, none⟩), .bool sel, .int .i64 p, .int .i64 now] w fun e w' => e = .returned (.tuple #[.bool (stepAny sel s f p now).did, .int .i64 (stepErr p now)]) ∧
      w.grownBy w' (some g) ∧ MuxAt w' g 35 (stepAny sel s f p now).s (stepAny sel s f p now).f := by
  obtain ⟨hb, hs, hf⟩ := hm
  by_cases hok : 0 ≤ now ∧ now ≤ 1099511627776 ∧ 0 ≤ p ∧ p ≤ 255
  · unfold stepAny stepErr
    rw [if_pos hok, if_pos hok]
    have hk := stepS_ok sel s f p now hs hf hok
    exact (refStep_any g sel s f p now w hb hs hf hok).mono fun e w' ⟨h1, h2⟩ => ⟨h1, h2.1, h2.2, hk.1, hk.2⟩
  · unfold stepAny stepErr
    rw [if_neg hok, if_neg hok]
    refine (refStep_bad g sel p now w hok).mono fun e w' ⟨h1, h2⟩ => ?_
    subst h2
    exact ⟨h1, World.grownBy.refl _ _, hb, hs, hf⟩
/-- The moment from which it waits is 0, or one that was told. -/
theorem stepAny_from (sel : Bool) (s f p now m : Int) (hf : f ≤ m) (hn : now ≤ m) : (stepAny sel s f p now).f ≤ m := by
  unfold stepAny
  split
  · unfold stepS
    cases firstB (ruleB sel s f p now) 0 7 with
    | none => exact hf
    | some k =>
      show (if ruleT k = 1 then now else f) ≤ m
      split
      · exact hn
      · exact hf
  · exact hf

theorem below_of_grown {w w' : World} {g B : Nat} (h : w.grownBy w' (some g)) (hB : B ≤ g) (hs : B ≤ w.heap.size) : Below B w w' :=
  ⟨h.os, h.tape, h.output, h.size, fun k hk => h.block k (by omega) (by intro e; injection e with e; omega)⟩

/-- What made leaves: a new mux, sound. -/
def MadePost (n : Nat) (L : Nat → St) (w : World) (e : Ending) (w' : World) : Prop :=
  ∃ g s f, e = .returned (.pointer (some ⟨g, 0, none⟩)) ∧ Below w.heap.size w w' ∧ w.heap.size ≤ g ∧ MuxAt w' g 41 s f ∧ ∀ m, 0 ≤ m → (∀ i, i < n → (L i).now ≤ m) → f ≤ m

set_option maxRecDepth 100000 in
set_option maxHeartbeats 2000000 in
theorem made_any (A : Option Addr) (n cap : Nat) (L : Nat → St) (w : World) (hl : StepsAt w w.heap.size A n L) :
    Calls Try.prog 16 #[.slice A n cap] w (MadePost n L w) := by
  have hn := hl.1
  have HL := hide hl; clear hl
  go_enter Try.func16, Try.ntmps16
  go_wp2_with fail
  refine (new_any _).mono ?_
  rintro e w1 ⟨rfl, hw1⟩
  have HW1 := hide hw1
  have hb1 : Below w.heap.size w w1 := hw1 ▸ (Below.refl _ _).alloc (Nat.le_refl _) _
  have hm1 : MuxAt w1 w.heap.size 41 0 0 := ⟨hw1 ▸ heap_alloc_new _ _, by decide, by decide⟩
  clear hw1
  have HM1 := hide hm1; clear hm1
  go_wp2_with fail
  go_loopw [4] (fun i wr => ∃ (k : Nat) (s f : Int), k ≤ n ∧ i = .int .i64 k ∧ Below w.heap.size w wr ∧ MuxAt wr w.heap.size 41 s f ∧ ∀ m, 0 ≤ m → (∀ i, i < n → (L i).now ≤ m) → f ≤ m)
    (fun i _ => n - (intOf i).toNat)
  case atStart => exact ⟨0, 0, 0, by omega, rfl, hb1, HM1.out, fun m h _ => h⟩
  case round =>
    obtain ⟨k, s, f, hk, rfl, hbel, hm, hfr⟩ := hrel
    have HM := hide hm; have HFR := hide hfr; clear hm hfr
    by_cases hlt : k < n
    · by_cases hlt2 : k < 200
      · obtain ⟨b, o, hA, hbB, c1, c2, c3, -⟩ := (HL.out.below hbel).2 k hlt
        subst hA
        go_wp2_with fail
        refine wp_region_tail 16 (by kernel_rfl) (by kernel_rfl) (fun u hu => ?_)
        have d1 : u.cell? ⟨b, o + k * 3, none⟩ = some (.bool (L k).sel) := by rw [hu]; exact c1
        have d2 : u.cell? ⟨b, o + k * 3 + 1, none⟩ = some (.int .i64 (L k).p) := by rw [hu]; exact c2
        have d3 : u.cell? ⟨b, o + k * 3 + 2, none⟩ = some (.int .i64 (L k).now) := by rw [hu]; exact c3
        have DM : Hid (MuxAt u w.heap.size 41 s f) := by rw [hu]; exact HM.out
        have hbu : Below w.heap.size w u := by rw [hu]; exact hbel.drew
        clear hu c1 c2 c3
        simp only [List.take_succ_cons, List.take_zero, List.drop_succ_cons, List.drop_zero]
        repeat (first | go_big_quiet_skip | (go_big_quiet_want; go_big_quiet_op; go_big_quiet_on))
        refine wpQuiet_nil ?_
        go_wp2_with (go_at_call 11; refine (step_all w.heap.size (L k).sel s f (L k).p (L k).now u DM.out).mono ?_; rintro e w2 ⟨rfl, hgr, hm2⟩)
        have hz := hbu.size
        have hsz : w.heap.size < u.heap.size := (Array.getElem?_eq_some_iff.1 DM.out.1).1
        go_roundw
        case rel => exact ⟨k + 1, _, _, by omega, by go_num, hbu.trans (below_of_grown hgr (Nat.le_refl _) hz), hm2, fun m h0 h1 => stepAny_from _ _ _ _ _ m (HFR.out m h0 h1) (h1 k hlt)⟩
        case measure => simp [intOf]; omega
      · go_wp2_with fail
        go_ret
        exact ⟨_, s, f, rfl, hbel, Nat.le_refl _, HM.out, HFR.out⟩
    · go_wp2_with fail
      go_ret
      exact ⟨_, s, f, rfl, hbel, Nat.le_refl _, HM.out, HFR.out⟩
end Go.Proofs.Ytpkpgefmkamaiaa

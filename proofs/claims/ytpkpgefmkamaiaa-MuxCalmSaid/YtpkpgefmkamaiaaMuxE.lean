/-
  A link's mux: Step goes on by the first rule that holds.
-/
import Derived.Test.YtpkpgefmkamaiaaMuxC
import Derived.Test.YtpkpgefmkamaiaaMuxD
namespace Go.Proofs.Ytpkpgefmkamaiaa
open Go.RowKit
set_option linter.unusedVariables false

theorem rules_any (g : Nat) (sel : Bool) (s f p now : Int) (w : World) (hb : w.heap[g]? = some (.cells #[.int .i64 s, .int .i64 f] 41 (0, 0))) (hs : 0 ≤ s ∧ s ≤ 4)
    (hf : 0 ≤ f ∧ f ≤ 1099511627776) (hn : 0 ≤ now ∧ now ≤ 1099511627776) :
    Calls Try.prog 17 #[.pointer (some ⟨g, 0, none⟩), .bool sel, .int .i64 p, .int .i64 now] w fun e w' => RulesPost sel s f p now w e w' := by
  have hg : g < w.heap.size := (Array.getElem?_eq_some_iff.1 hb).1
  have h0 : w.cell? ⟨g, 0, none⟩ = some (.int .i64 s) := cell_of_row w g 0 _ 41 (0, 0) hb
  have h1 : w.cell? ⟨g, 1, none⟩ = some (.int .i64 f) := cell_of_row w g 1 _ 41 (0, 0) hb
  rcases (show s = 0 ∨ s = 1 ∨ s = 2 ∨ s = 3 ∨ s = 4 by omega) with rfl | rfl | rfl | rfl | rfl <;> cases sel
  · exact rules_f0 g f p now w hg h0 h1 hf hn
  · exact rules_t0 g f p now w hg h0 h1 hf hn
  · exact rules_f1 g f p now w hg h0 h1 hf hn
  · exact rules_t1 g f p now w hg h0 h1 hf hn
  · exact rules_f2 g f p now w hg h0 h1 hf hn
  · exact rules_t2 g f p now w hg h0 h1 hf hn
  · exact rules_f3 g f p now w hg h0 h1 hf hn
  · exact rules_t3 g f p now w hg h0 h1 hf hn
  · exact rules_f4 g f p now w hg h0 h1 hf hn
  · exact rules_t4 g f p now w hg h0 h1 hf hn

/-- What a step makes of a state: the first rule that holds. -/
def firstB (b : Nat → Bool) : Nat → Nat → Option Nat
  | _, 0 => none
  | k, n + 1 => if b k then some k else firstB b (k + 1) n
structure SM where
  s : Int
  f : Int
  did : Bool
def stepS (sel : Bool) (s f p now : Int) : SM :=
  match firstB (ruleB sel s f p now) 0 7 with
  | none => ⟨s, f, false⟩
  | some k => ⟨ruleT k, if ruleT k = 1 then now else f, true⟩

theorem firstB_skip (b : Nat → Bool) : ∀ (k m n : Nat), (∀ j, m ≤ j → j < m + k → b j = false) → firstB b m (k + n) = firstB b (m + k) n
  | 0, m, n, _ => by simp
  | k + 1, m, n, h => by
    rw [show k + 1 + n = (k + n) + 1 by omega, firstB, if_neg (by rw [h m (by omega) (by omega)]; simp), firstB_skip b k (m + 1) n (fun j h1 h2 => h j (by omega) (by omega)), show m + 1 + k = m + (k + 1) by omega]
theorem firstB_hit (b : Nat → Bool) (k : Nat) (hk : k < 7) (h : ∀ j, j < k → b j = false) (hb : b k = true) : firstB b 0 7 = some k := by
  have := firstB_skip b k 0 (7 - k) (fun j _ h2 => h j (by omega))
  rw [show k + (7 - k) = 7 by omega] at this
  rw [this, show 7 - k = (6 - k) + 1 by omega, firstB, Nat.zero_add, if_pos hb]
theorem firstB_none (b : Nat → Bool) (h : ∀ j, j < 7 → b j = false) : firstB b 0 7 = none := by
  have := firstB_skip b 7 0 0 (fun j _ h2 => h j (by omega))
  rw [this, firstB]

/-- The world behind a step: block g has turned, and there is more. -/
def Stepped (w w' : World) (g : Nat) (t : TypeId) (s f : Int) : Prop := w.grownBy w' (some g) ∧ w'.heap[g]? = some (.cells #[.int .i64 s, .int .i64 f] t (0, 0))

def okStep (p now : Int) : Prop := 0 ≤ now ∧ now ≤ 1099511627776 ∧ 0 ≤ p ∧ p ≤ 255

theorem stepped_of_below {w w' : World} {g t : Nat} {s f : Int} (hb : w.heap[g]? = some (.cells #[.int .i64 s, .int .i64 f] t (0, 0))) (h : Below w.heap.size w w') : Stepped w w' g t s f :=
  ⟨⟨h.os, h.tape, h.output, h.size, fun k hk _ => h.block k hk⟩, (h.block g (Array.getElem?_eq_some_iff.1 hb).1).trans hb⟩

theorem row_bool (sel : Bool) (s f p now : Int) (k : Nat) (hk : k < 7) : (ruleCells sel s f p now)[k * 2]? = some (.bool (ruleB sel s f p now k)) ∧ (ruleCells sel s f p now)[k * 2 + 1]? = some (.int .i64 (ruleT k)) := by
  rcases (show k = 0 ∨ k = 1 ∨ k = 2 ∨ k = 3 ∨ k = 4 ∨ k = 5 ∨ k = 6 by omega) with rfl | rfl | rfl | rfl | rfl | rfl | rfl <;> exact ⟨rfl, rfl⟩

theorem stepped_store1 {w wr : World} {g t : Nat} {s f T : Int} (hb : w.heap[g]? = some (.cells #[.int .i64 s, .int .i64 f] t (0, 0))) (hbel : Below w.heap.size w wr) :
    Stepped w (wr.setCell ⟨g, 0, none⟩ (.int .i64 T)) g t T f := by
  have hg : g < w.heap.size := (Array.getElem?_eq_some_iff.1 hb).1
  refine ⟨⟨hbel.os, hbel.tape, hbel.output, ?_, fun k hk hne => ?_⟩, ?_⟩
  · show _ ≤ (wr.heap.modify _ _).size
    rw [Array.size_modify]
    exact hbel.size
  · rw [Below.heap_setCell _ _ _ _ (fun e => hne (by rw [e]))]
    exact hbel.block k hk
  · exact heap_setCell_same _ g 0 _ t _ ((hbel.block g hg).trans hb)
theorem stepped_alloc {w w1 : World} {g t : Nat} {s f : Int} (h : Stepped w w1 g t s f) (o : Obj) : Stepped w (w1.alloc o) g t s f := by
  refine ⟨⟨h.1.os, h.1.tape, h.1.output, Nat.le_trans h.1.size (by simp), fun k hk hne => ?_⟩, ?_⟩
  · rw [Below.heap_alloc _ _ _ (by have := h.1.size; omega)]
    exact h.1.block k hk hne
  · rw [Below.heap_alloc _ _ _ (Array.getElem?_eq_some_iff.1 h.2).1]
    exact h.2
theorem stepped_store2 {w w1 : World} {g t : Nat} {s f F : Int} (h : Stepped w w1 g t s f) : Stepped w (w1.setCell ⟨g, 1, none⟩ (.int .i64 F)) g t s F := by
  refine ⟨⟨h.1.os, h.1.tape, h.1.output, ?_, fun k hk hne => ?_⟩, ?_⟩
  · show _ ≤ (w1.heap.modify _ _).size
    rw [Array.size_modify]
    exact h.1.size
  · rw [Below.heap_setCell _ _ _ _ (fun e => hne (by rw [e]))]
    exact h.1.block k hk hne
  · exact heap_setCell_same _ g 1 _ t _ h.2

set_option maxHeartbeats 2000000 in
theorem step_any (g : Nat) (sel : Bool) (s f p now : Int) (w : World) (hb : w.heap[g]? = some (.cells #[.int .i64 s, .int .i64 f] 41 (0, 0))) (hs : 0 ≤ s ∧ s ≤ 4)
    (hf : 0 ≤ f ∧ f ≤ 1099511627776) (hok : okStep p now) :
    Calls Try.prog 11 #[.pointer (some ⟨g, 0, none⟩), .bool sel, .int .i64 p, .int .i64 now] w fun e w' => e = .returned (.tuple #[.bool (stepS sel s f p now).did, .int .i64 0]) ∧ Stepped w w' g 41 (stepS sel s f p now).s (stepS sel s f p now).f := by
  obtain ⟨n0, n1, p0, p1⟩ := hok
  have hg : g < w.heap.size := (Array.getElem?_eq_some_iff.1 hb).1
  have HR := hide (rules_any g sel s f p now w hb hs hf ⟨n0, n1⟩)
  have HB := hide hb
  clear hb hs
  go_enter Try.func11, Try.ntmps11
  go_wp2_with fail
  refine HR.out.mono ?_
  rintro e w1 ⟨g', rfl, hb1, hg', hr⟩
  have HRow := hide hr; clear hr
  go_wp2_with fail
  go_loopw [32] (fun i wr => ∃ k : Nat, k ≤ 7 ∧ i = .int .i64 k ∧ Below w1.heap.size w1 wr ∧ ∀ j : Nat, j < k → ruleB sel s f p now j = false)
    (fun i _ => 7 - (intOf i).toNat)
  case atStart => exact ⟨0, by omega, rfl, Below.refl _ _, fun j hj => by omega⟩
  case round =>
    obtain ⟨k, hk, rfl, hbel, hno⟩ := hrel
    have HNO := hide hno; clear hno
    have hz1 := hb1.size
    have hbw : Below w.heap.size w wr := hb1.trans (hbel.mono hz1)
    by_cases hlt : k < 7
    · have hgr : g' < w1.heap.size := (Array.getElem?_eq_some_iff.1 HRow.out).1
      have hrow := row_bool sel s f p now k hlt
      have r0 : wr.cell? ⟨g', k * 2, none⟩ = some (.bool (ruleB sel s f p now k)) := (hbel.cell (by exact hgr)).trans ((cell_of_row w1 g' _ _ 45 (0, 0) HRow.out).trans hrow.1)
      have r1 : wr.cell? ⟨g', k * 2 + 1, none⟩ = some (.int .i64 (ruleT k)) := (hbel.cell (by exact hgr)).trans ((cell_of_row w1 g' _ _ 45 (0, 0) HRow.out).trans hrow.2)
      clear hrow
      have m0 : wr.cell? ⟨g, 0, none⟩ = some (.int .i64 s) := (hbw.cell (by exact hg)).trans (cell_of_row w g 0 _ 41 (0, 0) HB.out)
      have m1 : wr.cell? ⟨g, 1, none⟩ = some (.int .i64 f) := (hbw.cell (by exact hg)).trans (cell_of_row w g 1 _ 41 (0, 0) HB.out)
      have z0 : wr.frozen? ⟨g, 0, none⟩ = false := (hbw.frozen (by exact hg)).trans (frozen_of_row w g 0 _ 41 HB.out)
      have z1 : wr.frozen? ⟨g, 1, none⟩ = false := (hbw.frozen (by exact hg)).trans (frozen_of_row w g 1 _ 41 HB.out)
      have hgw : g < wr.heap.size := by have := hbw.size; omega
      have hk0 : (0 : Int) ≤ (k : Int) := by omega
      have hk7 : (k : Int) < 7 := by omega
      cases hd : ruleB sel s f p now k
      · rw [hd] at r0
        have HD := hide hd; clear hd
        go_wp2_with fail
        go_roundw
        case rel => exact ⟨k + 1, by omega, by go_num, hbel.alloc (by have := hbel.size; omega) _, fun j hj => by
          rcases Nat.lt_or_ge j k with h1 | h1
          · exact HNO.out j h1
          · have e : j = k := by omega
            subst e; exact HD.out⟩
        case measure => simp [intOf]; omega
      · rw [hd] at r0
        have HF : Hid (stepS sel s f p now = ⟨ruleT k, if ruleT k = 1 then now else f, true⟩) := by
          show _ = _
          unfold stepS
          rw [firstB_hit _ k hlt HNO.out hd]
        clear hd
        generalize hT : ruleT k = T at *
        clear hT
        by_cases hone : T = 1
        · subst hone
          go_wp2_with fail
          go_ret2
          exact ⟨by rw [HF.out]; rfl, by rw [HF.out]; exact stepped_alloc (stepped_store2 (stepped_store1 HB.out hbw)) _⟩
        · go_wp2_with fail
          go_ret2
          exact ⟨by rw [HF.out]; rfl, by rw [HF.out, if_neg hone]; exact stepped_alloc (stepped_store1 HB.out hbw) _⟩
    · obtain rfl : k = 7 := by omega
      have HF : Hid (stepS sel s f p now = ⟨s, f, false⟩) := by
        show _ = _
        unfold stepS
        rw [firstB_none _ HNO.out]
      go_wp2_with fail
      go_ret2
      exact ⟨by rw [HF.out]; rfl, by rw [HF.out]; exact stepped_of_below HB.out hbw⟩
end Go.Proofs.Ytpkpgefmkamaiaa

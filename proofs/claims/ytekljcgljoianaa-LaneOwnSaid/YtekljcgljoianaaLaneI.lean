/-
  The lane's statements' own first step; what opens their arguments.
-/
import Derived.Test.YtekljcgljoianaaLaneH
import Derived.Lib.SlBytesConst
namespace Go.Proofs.Ytekljcgljoianaa
open Go.RowKit Go.WideShapes Go.ChangeShapes
set_option linter.unusedVariables false

theorem row_new1 (w : World) (X : Nat → Prop) (c : UInt8) (hX : ¬ X w.heap.size) : RowAt (w.alloc (.cells #[.int .u8 (c.toNat : Int)] 5 (1, 2))) X (.slice (some ⟨w.heap.size, 0, none⟩) 1 1) [c] :=
  ⟨_, 1, rfl, by simp, by simp, .inr ⟨⟨w.heap.size, 0, none⟩, rfl, hX, fun i hi => by
    obtain rfl : i = 0 := by simpa using hi
    exact World.cell?_alloc_mark w _ 5 (1, 2) 0⟩⟩

def XA (n : Nat) (k : Nat) : Prop := k = n ∨ k = n + 1

set_option maxRecDepth 100000 in
set_option maxHeartbeats 4000000 in
theorem awake_any (w : World) : Calls Try.prog 8 #[] w fun e w' => e = .returned (.bool true) ∧ Below w.heap.size w w' := by
  have f0 : (LS.new 5).fine := ⟨by decide, by decide, by decide, by decide, by decide, by decide⟩
  have f1 := f0.put (by decide) [97]
  have f2 := f1.put (by decide) [98]
  have f3 := f2.lose
  have F0 := hide f0; have F1 := hide f1; have F2 := hide f2; have F3 := hide f3
  have hXB : ∀ k, XA w.heap.size k → w.heap.size ≤ k := fun k hk => by rcases hk with rfl | rfl <;> omega
  clear f0 f1 f2 f3
  have kc := fun (w : World) (C : Array Value) (n c : Nat) => Lib.run_convert_bytes_const (P := Try.prog) w 29 5 C n c Try.underlying29 Try.underlying5
  go_enter Try.func8, Try.ntmps8
  go_wp2_with fail
  refine (laneNew_any (XA w.heap.size) 5 w).mono ?_
  rintro e w1 (⟨-, -, n, hn, rfl, hb1, hz1, hl1⟩ | ⟨h, -, -⟩)
  rotate_left
  · omega
  obtain rfl : n = 5 := by omega
  have HL1 := hide (hl1.chg ((Chg.refl (XA w.heap.size) w1).alloc (.cells #[.int .u8 97] 5 (1, 2))) (Below.heap_alloc _ _ _ (by omega)) (Below.heap_alloc _ _ _ (by omega)))
  have hlt : ∀ k, XA w.heap.size k → k < w.heap.size + 2 := fun k hk => by rcases hk with rfl | rfl <;> omega
  have HR1 := hide (row_new1 w1 (XA w.heap.size) 97 (fun hx => by have := hlt _ hx; omega))
  have hz1' : w.heap.size + 2 ≤ w1.heap.size := by omega
  clear hl1 hn hz1
  go_wp2_with fail
  refine (put_any (XA w.heap.size) (XA w.heap.size) (w.heap.size + 1) w.heap.size (LS.new 5) _ 1 1 [97] _ (.inr rfl) (.inl rfl) (fun k hk => by have := hlt k hk; simp; omega) F0.out (by decide) HL1.out HR1.out (by decide)).mono ?_
  rintro e w2 ⟨rfl, hc2, hl2⟩
  have hz2 := hc2.size
  simp at hz2
  have HB2 := hide (hb1.trans (((Below.refl w1.heap.size w1).alloc (Nat.le_refl _) (.cells #[.int .u8 97] 5 (1, 2))).mono (by omega) |>.trans (hc2.toBelow hXB (by simp; omega))))
  have HL2 := hide (hl2.chg ((Chg.refl (XA w.heap.size) w2).alloc (.cells #[.int .u8 98] 5 (1, 2))) (Below.heap_alloc _ _ _ (by omega)) (Below.heap_alloc _ _ _ (by omega)))
  have HR2 := hide (row_new1 w2 (XA w.heap.size) 98 (fun hx => by have := hlt _ hx; omega))
  clear hb1 hc2 hl2
  go_wp2_with fail
  refine (put_any (XA w.heap.size) (XA w.heap.size) (w.heap.size + 1) w.heap.size _ _ 1 1 [98] _ (.inr rfl) (.inl rfl) (fun k hk => by have := hlt k hk; simp; omega) F1.out (by decide) HL2.out HR2.out (by decide)).mono ?_
  rintro e w3 ⟨rfl, hc3, hl3⟩
  have hz3 := hc3.size
  simp at hz3
  have HB3 := hide (HB2.out.trans (((Below.refl w2.heap.size w2).alloc (Nat.le_refl _) (.cells #[.int .u8 98] 5 (1, 2))).mono (by omega) |>.trans (hc3.toBelow hXB (by simp; omega))))
  have HL3 := hide hl3
  clear hc3 hl3
  go_wp2_with fail
  refine (lose_any (XA w.heap.size) (XA w.heap.size) (w.heap.size + 1) w.heap.size _ _ (.inr rfl) F2.out HL3.out).mono ?_
  rintro e w4 (⟨hQ, -, -⟩ | ⟨q, r, hQ, rfl, hc4, hl4⟩)
  · cases hQ
  have HB4 := hide (HB3.out.trans (hc4.toBelow hXB (by omega)))
  have hz4 := hc4.size
  have HL4 := hide hl4
  clear hc4 hl4 hQ
  go_wp2_with fail
  refine (get_any (XA w.heap.size) (XA w.heap.size) (w.heap.size + 1) w.heap.size _ _ (.inr rfl) F3.out HL4.out).mono ?_
  rintro e w5 (⟨hQ, -, -⟩ | ⟨q, r, v, hQ, rfl, hrow, hc5, hl5⟩)
  · cases hQ
  have hQ' : [[98]] = q :: r := hQ
  injection hQ' with e1 e2
  subst e1 e2
  have HB5 := hide (HB4.out.trans (hc5.toBelow hXB (by omega)))
  obtain ⟨A, cap, rfl⟩ := hrow.form
  have hcv : (convert 29 9 (.slice A 1 cap)).run Try.prog w5 = .ok (.string ⟨#[98]⟩) w5 := convert_row hrow
  have hlen : w5.cell? ⟨w.heap.size + 1, 2, none⟩ = some (.int .i64 0) := hl5.cells.1
  clear hc5 hl5 hQ hrow
  go_wp2_with (go_at_call 10; refine (len_any _ _ _ hlen).mono ?_; rintro e w6 ⟨rfl, rfl⟩)
  go_ret
  exact ⟨rfl, HB5.out⟩
end Go.Proofs.Ytekljcgljoianaa

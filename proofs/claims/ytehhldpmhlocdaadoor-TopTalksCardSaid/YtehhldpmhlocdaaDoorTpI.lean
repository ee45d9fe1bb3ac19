/-
  TopTalks, the walk.
-/
import Derived.Test.YtehhldpmhlocdaaDoorTpH
import Derived.Deep.AppendLies
namespace Go.Proofs.YtehhldpmhlocdaaDoor
open Go.RowKit Go.WideShapes Go.ChangeShapes
set_option linter.unusedVariables false

theorem choose7 (h : Int) : chooseF h [7] = 7 := rfl
theorem info3 : (Tryd.prog.info? 3).map (fun i => (i.zero, i.size, i.bytes)) = some (some (.int .i64 0), 1, 8) := by kernel_rfl
def icells (L : List Int) : List Value := L.map (.int .i64)
/-- What is kept of the first k. -/
def restF (d : Int) (U : List Int) (k : Nat) : List Int := (U.take k).filter fun y => decide (y ≠ d)
theorem restF_snoc (d : Int) (U : List Int) (k : Nat) (hk : k < U.length) : restF d U (k + 1) = if U[k] ≠ d then restF d U k ++ [U[k]] else restF d U k := by
  unfold restF
  rw [List.take_succ_eq_append_getElem hk, List.filter_append]
  by_cases h : U[k] = d
  · simp [h]
  · simp [h]

set_option maxRecDepth 100000 in
set_option maxHeartbeats 16000000 in
theorem topTalks_any (x : Fra) (bdx : List UInt8) (A1 : Option Addr) (n1 c1 : Nat) (bd : List UInt8) (A2 : Option Addr) (n2 c2 : Nat) (L : List Int) (w : World)
    (hx : BodyAt w w.heap.size x bdx) (hb : BodyAt w w.heap.size { x with A := A1, n := n1, cap := c1 } bd) (hL : L.length = n2) (hc : n2 ≤ c2 ∧ c2 ≤ 9223372036854775807) (hl : IntSl w w.heap.size A2 L) :
    Calls Tryd.prog 3 #[.agg #[.int .u8 (x.d0.toNat : Int), .int .u8 (x.d1.toNat : Int), .int .u8 (x.d2.toNat : Int), .int .u8 (x.d3.toNat : Int), .int .u8 (x.d4.toNat : Int), .int .u8 (x.d5.toNat : Int), .int .u8 (x.s0.toNat : Int), .int .u8 (x.s1.toNat : Int), .int .u8 (x.s2.toNat : Int), .int .u8 (x.s3.toNat : Int), .int .u8 (x.s4.toNat : Int), .int .u8 (x.s5.toNat : Int), .bool x.tg, .int .i64 x.vl, .int .i64 x.pr, .int .i64 x.ty, .slice x.A x.n x.cap], .slice A1 n1 c1, .slice A2 n2 c2] w fun e w' => e = .returned (.bool true) ∧ Below w.heap.size w w' := by
  have HX := hide hx; have HBd := hide hb; have HLn := hide hL; have HCc := hide hc; have HLl := hide hl
  have HK0 := hide (heap_alloc_new w (.cells #[.int .u8 (x.d0.toNat : Int), .int .u8 (x.d1.toNat : Int), .int .u8 (x.d2.toNat : Int), .int .u8 (x.d3.toNat : Int), .int .u8 (x.d4.toNat : Int), .int .u8 (x.d5.toNat : Int), .int .u8 (x.s0.toNat : Int), .int .u8 (x.s1.toNat : Int), .int .u8 (x.s2.toNat : Int), .int .u8 (x.s3.toNat : Int), .int .u8 (x.s4.toNat : Int), .int .u8 (x.s5.toNat : Int), .bool x.tg, .int .i64 x.vl, .int .i64 x.pr, .int .i64 x.ty, .slice x.A x.n x.cap] 26))
  have HB0 := hide ((Below.refl w.heap.size w).alloc (Nat.le_refl _) (.cells #[.int .u8 (x.d0.toNat : Int), .int .u8 (x.d1.toNat : Int), .int .u8 (x.d2.toNat : Int), .int .u8 (x.d3.toNat : Int), .int .u8 (x.d4.toNat : Int), .int .u8 (x.d5.toNat : Int), .int .u8 (x.s0.toNat : Int), .int .u8 (x.s1.toNat : Int), .int .u8 (x.s2.toNat : Int), .int .u8 (x.s3.toNat : Int), .int .u8 (x.s4.toNat : Int), .int .u8 (x.s5.toNat : Int), .bool x.tg, .int .i64 x.vl, .int .i64 x.pr, .int .i64 x.ty, .slice x.A x.n x.cap] 26))
  obtain ⟨w0, hw0⟩ : ∃ u, u = w.alloc (.cells #[.int .u8 (x.d0.toNat : Int), .int .u8 (x.d1.toNat : Int), .int .u8 (x.d2.toNat : Int), .int .u8 (x.d3.toNat : Int), .int .u8 (x.d4.toNat : Int), .int .u8 (x.d5.toNat : Int), .int .u8 (x.s0.toNat : Int), .int .u8 (x.s1.toNat : Int), .int .u8 (x.s2.toNat : Int), .int .u8 (x.s3.toNat : Int), .int .u8 (x.s4.toNat : Int), .int .u8 (x.s5.toNat : Int), .bool x.tg, .int .i64 x.vl, .int .i64 x.pr, .int .i64 x.ty, .slice x.A x.n x.cap] 26) := ⟨_, rfl⟩
  have HW0 := hide hw0
  rw [← hw0] at HK0 HB0
  have hs0 : w.heap.size < w0.heap.size := by rw [hw0]; simp
  clear hx hb hL hc hl hw0
  go_enter Tryd.func3, Tryd.ntmps3
  go_wp2_with fail
  rw [← HW0.out]
  have hsw : w0.heap.size = w.heap.size + 1 := by rw [HW0.out]; simp
  obtain ⟨w1, hw1⟩ : ∃ u, u = w0.alloc (.cells #[.int .i64 7] 3) := ⟨_, rfl⟩
  have HW1 := hide hw1
  have HS1 := hide (show w1.heap[w.heap.size + 1]? = some (.cells #[.int .i64 7] 3 (0, 0)) by rw [hw1, ← hsw]; exact heap_alloc_new w0 _)
  have HK1 := hide (show w1.heap[w.heap.size]? = some (.cells #[.int .u8 (x.d0.toNat : Int), .int .u8 (x.d1.toNat : Int), .int .u8 (x.d2.toNat : Int), .int .u8 (x.d3.toNat : Int), .int .u8 (x.d4.toNat : Int), .int .u8 (x.d5.toNat : Int), .int .u8 (x.s0.toNat : Int), .int .u8 (x.s1.toNat : Int), .int .u8 (x.s2.toNat : Int), .int .u8 (x.s3.toNat : Int), .int .u8 (x.s4.toNat : Int), .int .u8 (x.s5.toNat : Int), .bool x.tg, .int .i64 x.vl, .int .i64 x.pr, .int .i64 x.ty, .slice x.A x.n x.cap] 26 (0, 0)) by rw [hw1]; exact (Below.heap_alloc w0 _ _ hs0).trans HK0.out)
  have HB1 := hide (show Below w.heap.size w w1 by rw [hw1]; exact HB0.out.alloc HB0.out.size _)
  have hs1 : w.heap.size + 1 < w1.heap.size := by rw [hw1]; simp; omega
  clear hw1 hsw HK0 HB0
  rw [← HW1.out]
  have HX2 := show Calls Tryd.prog 5 #[.agg #[.int .u8 0, .int .u8 0, .int .u8 0, .int .u8 0, .int .u8 0, .int .u8 0, .int .u8 0, .int .u8 0, .int .u8 0, .int .u8 0, .int .u8 0, .int .u8 0, .bool false, .int .i64 0, .int .i64 0, .int .i64 0, .slice none 0 0]] w1 fun e w' => e = .returned (.int .u32 (hashF Fra.zero)) ∧ Below w1.heap.size w1 w' from hash_any Fra.zero w1
  with_reducible refine HX2.mono ?_
  clear HX2
  rintro e w2 ⟨rfl, hb2⟩
  obtain ⟨h0, hh0⟩ : ∃ h, h = hashF Fra.zero := ⟨_, rfl⟩
  rw [← hh0]
  have HS2 := hide ((hb2.block (w.heap.size + 1) hs1).trans HS1.out)
  have HK2 := hide ((hb2.block w.heap.size (by omega)).trans HK1.out)
  have HB2 := hide (HB1.out.trans (hb2.mono HB1.out.size))
  have hs2 : w.heap.size + 1 < w2.heap.size := by have := hb2.size; omega
  clear hb2 hh0 HS1 HK1 HB1 HW1 HW0
  go_wp2_with fail
  have HX3 := choose_any (some ⟨w.heap.size + 1, 0, none⟩) 1 1 h0 [7] w2 rfl (by omega) (.inr ⟨w.heap.size + 1, 0, rfl, by omega, fun i hi => by
    obtain rfl : i = 0 := by simpa using hi
    exact cell_of_row w2 _ 0 _ 3 (0, 0) HS2.out⟩)
  rw [choose7, show someF [7] = true from rfl] at HX3
  with_reducible refine HX3.mono ?_
  clear HX3
  rintro e w3 ⟨rfl, hb3⟩
  have HK3 := hide ((hb3.block w.heap.size (by omega)).trans HK2.out)
  have HB3 := hide (HB2.out.trans (hb3.mono HB2.out.size))
  have hs3 : w.heap.size < w3.heap.size := by have := hb3.size; omega
  have c16 : w3.cell? ⟨w.heap.size, 16, none⟩ = some (.slice x.A x.n x.cap) := cell_of_row w3 w.heap.size 16 _ 26 (0, 0) HK3.out
  clear hb3 HS2 HK2 HB2
  by_cases g1 : (n2 : Int) < 2
  · go_wp2_with fail
    go_ret
    exact ⟨rfl, HB3.out⟩
  by_cases g2 : (30 : Int) < (n2 : Int)
  · go_wp2_with fail
    go_ret
    exact ⟨rfl, HB3.out⟩
  by_cases g3 : (1500 : Int) < (n1 : Int)
  · go_wp2_with fail
    go_ret
    exact ⟨rfl, HB3.out⟩
  by_cases g4 : (1500 : Int) < (x.n : Int)
  · go_wp2_with fail
    go_ret
    exact ⟨rfl, HB3.out⟩
  obtain ⟨d, U, hLU⟩ : ∃ d U, L = d :: U := by
    rcases L with _ | ⟨d, U⟩
    · have := HLn.out; simp at this; omega
    · exact ⟨d, U, rfl⟩
  subst hLU
  rcases HLl.out with h | ⟨b, o, hA, hbl, hci⟩
  · cases h
  subst hA
  have HCi := hide hci
  have d0 : w3.cell? ⟨b, o, none⟩ = some (.int .i64 d) := (HB3.out.cell (by exact hbl)).trans (hci 0 (by simp))
  have k0 : (0 : Int) < (n2 : Int) := by omega
  have k1 : (1 : Int) ≤ (n2 : Int) := by omega
  have k2 : ¬ c2 = 1 := by have := HCc.out; omega
  have k3 : ¬ 1 = c2 := by omega
  have k4 : (n2 : Int) ≤ (c2 : Int) := by have := HCc.out; omega
  clear hci
  obtain ⟨xb, hxb⟩ : ∃ y : Fra, y = { x with A := A1, n := n1, cap := c1 } := ⟨_, rfl⟩
  have HXb := hide hxb
  rw [← hxb] at HBd
  clear hxb
  have HN3 := hide (heap_alloc_new w3 (.cells #[.int .u8 0, .int .u8 0, .int .u8 0, .int .u8 0, .int .u8 0, .int .u8 0, .int .u8 0, .int .u8 0, .int .u8 0, .int .u8 0, .int .u8 0, .int .u8 0, .bool false, .int .i64 0, .int .i64 0, .int .i64 0, .slice none 0 0] 26))
  go_wp2_with (first
    | (refine wpList_load_part rfl 26 (.tmp 3) rfl w.heap.size 0 rfl 26 _ #[.int .u8 (x.d0.toNat : Int), .int .u8 (x.d1.toNat : Int), .int .u8 (x.d2.toNat : Int), .int .u8 (x.d3.toNat : Int), .int .u8 (x.d4.toNat : Int), .int .u8 (x.d5.toNat : Int), .int .u8 (x.s0.toNat : Int), .int .u8 (x.s1.toNat : Int), .int .u8 (x.s2.toNat : Int), .int .u8 (x.s3.toNat : Int), .int .u8 (x.s4.toNat : Int), .int .u8 (x.s5.toNat : Int), .bool x.tg, .int .i64 x.vl, .int .i64 x.pr, .int .i64 x.ty, .slice x.A x.n x.cap] (0, 0) _ HK3.out Tryd.underlying26 rfl (by kernel_rfl) rfl ?_)
    | (refine wpList_store_at rfl rfl w3.heap.size 0 #[.int .u8 (x.d0.toNat : Int), .int .u8 (x.d1.toNat : Int), .int .u8 (x.d2.toNat : Int), .int .u8 (x.d3.toNat : Int), .int .u8 (x.d4.toNat : Int), .int .u8 (x.d5.toNat : Int), .int .u8 (x.s0.toNat : Int), .int .u8 (x.s1.toNat : Int), .int .u8 (x.s2.toNat : Int), .int .u8 (x.s3.toNat : Int), .int .u8 (x.s4.toNat : Int), .int .u8 (x.s5.toNat : Int), .bool x.tg, .int .i64 x.vl, .int .i64 x.pr, .int .i64 x.ty, .slice x.A x.n x.cap] rfl rfl 26 HN3.out (by kernel_rfl) (by simp) (fra_ones x) #[.int .u8 (x.d0.toNat : Int), .int .u8 (x.d1.toNat : Int), .int .u8 (x.d2.toNat : Int), .int .u8 (x.d3.toNat : Int), .int .u8 (x.d4.toNat : Int), .int .u8 (x.d5.toNat : Int), .int .u8 (x.s0.toNat : Int), .int .u8 (x.s1.toNat : Int), .int .u8 (x.s2.toNat : Int), .int .u8 (x.s3.toNat : Int), .int .u8 (x.s4.toNat : Int), .int .u8 (x.s5.toNat : Int), .bool x.tg, .int .i64 x.vl, .int .i64 x.pr, .int .i64 x.ty, .slice x.A x.n x.cap] rfl ?_; intro w4 hf4 hb4; have HQ4 := hide hb4; have HF4 := hide hf4; have HK4 := hide (hf4.keep (show (w3.alloc (.cells #[.int .u8 0, .int .u8 0, .int .u8 0, .int .u8 0, .int .u8 0, .int .u8 0, .int .u8 0, .int .u8 0, .int .u8 0, .int .u8 0, .int .u8 0, .int .u8 0, .bool false, .int .i64 0, .int .i64 0, .int .i64 0, .slice none 0 0] 26)).heap[w.heap.size]? = _ from (Below.heap_alloc w3 _ _ hs3).trans HK3.out) (by omega)); have HB4 := hide ((HB3.out.alloc HB3.out.size (.cells #[.int .u8 0, .int .u8 0, .int .u8 0, .int .u8 0, .int .u8 0, .int .u8 0, .int .u8 0, .int .u8 0, .int .u8 0, .int .u8 0, .int .u8 0, .int .u8 0, .bool false, .int .i64 0, .int .i64 0, .int .i64 0, .slice none 0 0] 26)).trans (hf4.below HB3.out.size (by have := HB3.out.size; simp; omega))); have e16 : w4.cell? ⟨w3.heap.size, 16, none⟩ = some (.slice x.A x.n x.cap) := cell_of_row w4 _ 16 _ 26 (0, 0) hb4; have z16 : w4.frozen? ⟨w3.heap.size, 16, none⟩ = false := frozen_of_row w4 _ 16 _ 26 hb4; have HK5 := hide (((Frm.refl w4 w3.heap.size).put 16 (.slice A1 n1 c1)).keep HK4.out (by omega)); clear hf4 hb4)
    | (refine wpList_load_part rfl 26 (.tmp 3) rfl w.heap.size 0 rfl 26 _ #[.int .u8 (x.d0.toNat : Int), .int .u8 (x.d1.toNat : Int), .int .u8 (x.d2.toNat : Int), .int .u8 (x.d3.toNat : Int), .int .u8 (x.d4.toNat : Int), .int .u8 (x.d5.toNat : Int), .int .u8 (x.s0.toNat : Int), .int .u8 (x.s1.toNat : Int), .int .u8 (x.s2.toNat : Int), .int .u8 (x.s3.toNat : Int), .int .u8 (x.s4.toNat : Int), .int .u8 (x.s5.toNat : Int), .bool x.tg, .int .i64 x.vl, .int .i64 x.pr, .int .i64 x.ty, .slice x.A x.n x.cap] (0, 0) _ HK5.out Tryd.underlying26 rfl (by kernel_rfl) rfl ?_))
  obtain ⟨q, hq⟩ : ∃ q, q = w3.heap.size := ⟨_, rfl⟩
  obtain ⟨w5, hw5⟩ : ∃ u, u = w4.setCell ⟨w3.heap.size, 16, none⟩ (.slice A1 n1 c1) := ⟨_, rfl⟩
  have HQ5 := hide (show w5.heap[q]? = some (.cells #[.int .u8 (xb.d0.toNat : Int), .int .u8 (xb.d1.toNat : Int), .int .u8 (xb.d2.toNat : Int), .int .u8 (xb.d3.toNat : Int), .int .u8 (xb.d4.toNat : Int), .int .u8 (xb.d5.toNat : Int), .int .u8 (xb.s0.toNat : Int), .int .u8 (xb.s1.toNat : Int), .int .u8 (xb.s2.toNat : Int), .int .u8 (xb.s3.toNat : Int), .int .u8 (xb.s4.toNat : Int), .int .u8 (xb.s5.toNat : Int), .bool xb.tg, .int .i64 xb.vl, .int .i64 xb.pr, .int .i64 xb.ty, .slice xb.A xb.n xb.cap] 26 (0, 0)) by rw [hw5, hq, HXb.out]; exact heap_setCell_same w4 _ 16 _ 26 _ HQ4.out)
  have HB5 := hide (show Below w.heap.size w w5 by rw [hw5]; exact HB4.out.setCell (p := ⟨w3.heap.size, 16, none⟩) HB3.out.size _)
  rw [← hw5] at HK5 ⊢
  rw [← hq]
  have hqp : w.heap.size < q := by omega
  have hq5 : q < w5.heap.size := (Array.getElem?_eq_some_iff.1 HQ5.out).1
  clear hw5 hq e16 z16 d0 c16 HN3 HQ4 HF4 HK4 HB4 HK3 HB3 k0 k1 k2 k3 k4
  have HX6 := encode_any x bdx w5 ((HX.out.below HB5.out (Nat.le_refl _)).mono HB5.out.size)
  with_reducible refine HX6.mono ?_
  clear HX6
  rintro e w6 (⟨hR, ga, ca, rfl, hla, hga, hya, hb6⟩ | ⟨hR, rfl, hb6⟩)
  rotate_left
  · have HQ6 := hide ((hb6.block q hq5).trans HQ5.out)
    have HB6 := hide (HB5.out.trans (hb6.mono HB5.out.size))
    clear hb6 HQ5 HB5 HK5 hR
    go_wp2_with (refine wpList_load_part rfl 26 (.tmp 11) rfl q 0 rfl 26 _ #[.int .u8 (xb.d0.toNat : Int), .int .u8 (xb.d1.toNat : Int), .int .u8 (xb.d2.toNat : Int), .int .u8 (xb.d3.toNat : Int), .int .u8 (xb.d4.toNat : Int), .int .u8 (xb.d5.toNat : Int), .int .u8 (xb.s0.toNat : Int), .int .u8 (xb.s1.toNat : Int), .int .u8 (xb.s2.toNat : Int), .int .u8 (xb.s3.toNat : Int), .int .u8 (xb.s4.toNat : Int), .int .u8 (xb.s5.toNat : Int), .bool xb.tg, .int .i64 xb.vl, .int .i64 xb.pr, .int .i64 xb.ty, .slice xb.A xb.n xb.cap] (0, 0) _ HQ6.out Tryd.underlying26 rfl (by kernel_rfl) rfl ?_)
    have HX7 := encode_any xb bd w6 ((HBd.out.below HB6.out (Nat.le_refl _)).mono HB6.out.size)
    with_reducible refine HX7.mono ?_
    clear HX7
    rintro e w7 (⟨-, gb, cb, rfl, -, -, -, hb7⟩ | ⟨-, rfl, hb7⟩)
    all_goals
      have HB7 := hide (HB6.out.trans (hb7.mono HB6.out.size))
      clear hb7
      go_wp2_with fail
      go_ret
      exact ⟨rfl, HB7.out⟩
  have HRx := hide hR
  have HQ6 := hide ((hb6.block q hq5).trans HQ5.out)
  have HB6 := hide (HB5.out.trans (hb6.mono HB5.out.size))
  have hlax : (encF x bdx).length = (encF x bdx).length := rfl
  have HSa := hide (show SrcAt w6 w6.heap.size (some ⟨ga, 0, none⟩) ca (encF x bdx) from ⟨hla.1, hla.2, .inr ⟨ga, 0, rfl, hga, hya⟩⟩)
  obtain ⟨Na, hNa⟩ : ∃ n, n = (encF x bdx).length := ⟨_, rfl⟩
  have HNa := hide hNa
  rw [← hNa]
  clear hb6 HQ5 HB5 HK5 hR hla hga hya hNa hlax
  go_wp2_with (refine wpList_load_part rfl 26 (.tmp 11) rfl q 0 rfl 26 _ #[.int .u8 (xb.d0.toNat : Int), .int .u8 (xb.d1.toNat : Int), .int .u8 (xb.d2.toNat : Int), .int .u8 (xb.d3.toNat : Int), .int .u8 (xb.d4.toNat : Int), .int .u8 (xb.d5.toNat : Int), .int .u8 (xb.s0.toNat : Int), .int .u8 (xb.s1.toNat : Int), .int .u8 (xb.s2.toNat : Int), .int .u8 (xb.s3.toNat : Int), .int .u8 (xb.s4.toNat : Int), .int .u8 (xb.s5.toNat : Int), .bool xb.tg, .int .i64 xb.vl, .int .i64 xb.pr, .int .i64 xb.ty, .slice xb.A xb.n xb.cap] (0, 0) _ HQ6.out Tryd.underlying26 rfl (by kernel_rfl) rfl ?_)
  have HX7 := encode_any xb bd w6 ((HBd.out.below HB6.out (Nat.le_refl _)).mono HB6.out.size)
  with_reducible refine HX7.mono ?_
  clear HX7
  rintro e w7 (⟨hR, gb, cb, rfl, hlb, hgb, hyb, hb7⟩ | ⟨hR, rfl, hb7⟩)
  rotate_left
  · have HB7 := hide (HB6.out.trans (hb7.mono HB6.out.size))
    clear hb7 hR
    go_wp2_with fail
    go_ret
    exact ⟨rfl, HB7.out⟩
  have HRb := hide hR
  have HB7 := hide (HB6.out.trans (hb7.mono HB6.out.size))
  have HSa7 := hide (SrcAt.mono (HSa.out.below hb7 (Nat.le_refl _)) hb7.size)
  have HSb7 := hide (show SrcAt w7 w7.heap.size (some ⟨gb, 0, none⟩) cb (encF xb bd) from ⟨hlb.1, hlb.2, .inr ⟨gb, 0, rfl, hgb, hyb⟩⟩)
  obtain ⟨Nb, hNb⟩ : ∃ n, n = (encF xb bd).length := ⟨_, rfl⟩
  have HNb := hide hNb
  rw [← hNb]
  clear hb7 HB6 hR hlb hgb hyb hNb HSa HQ6 hq5 hqp
  go_wp2_with fail
  have HX8 := decode_any (some ⟨ga, 0, none⟩) ca Na x bdx w7 HRx.out HNa.out.symm HX.out.1 HSa7.out
  with_reducible refine HX8.mono ?_
  clear HX8
  rintro e w8 ⟨y1, hy1, rfl, hb8⟩
  have HY1 := hide hy1
  have HB8 := hide (HB7.out.trans (hb8.mono HB7.out.size))
  have HSb8 := hide (HSb7.out.below hb8 (Nat.le_refl _))
  have hsz78 := hb8.size
  have HN8 := hide (heap_alloc_new w8 (.cells #[.int .u8 0, .int .u8 0, .int .u8 0, .int .u8 0, .int .u8 0, .int .u8 0, .int .u8 0, .int .u8 0, .int .u8 0, .int .u8 0, .int .u8 0, .int .u8 0, .bool false, .int .i64 0, .int .i64 0, .int .i64 0, .slice none 0 0] 26))
  clear hb8 hy1 HSa7 HSb7 HB7
  go_wp2_with (refine wpList_store_at rfl rfl w8.heap.size 0 #[.int .u8 (y1.d0.toNat : Int), .int .u8 (y1.d1.toNat : Int), .int .u8 (y1.d2.toNat : Int), .int .u8 (y1.d3.toNat : Int), .int .u8 (y1.d4.toNat : Int), .int .u8 (y1.d5.toNat : Int), .int .u8 (y1.s0.toNat : Int), .int .u8 (y1.s1.toNat : Int), .int .u8 (y1.s2.toNat : Int), .int .u8 (y1.s3.toNat : Int), .int .u8 (y1.s4.toNat : Int), .int .u8 (y1.s5.toNat : Int), .bool y1.tg, .int .i64 y1.vl, .int .i64 y1.pr, .int .i64 y1.ty, .slice y1.A y1.n y1.cap] rfl rfl 26 HN8.out (by kernel_rfl) (by simp) (fra_ones y1) #[.int .u8 (y1.d0.toNat : Int), .int .u8 (y1.d1.toNat : Int), .int .u8 (y1.d2.toNat : Int), .int .u8 (y1.d3.toNat : Int), .int .u8 (y1.d4.toNat : Int), .int .u8 (y1.d5.toNat : Int), .int .u8 (y1.s0.toNat : Int), .int .u8 (y1.s1.toNat : Int), .int .u8 (y1.s2.toNat : Int), .int .u8 (y1.s3.toNat : Int), .int .u8 (y1.s4.toNat : Int), .int .u8 (y1.s5.toNat : Int), .bool y1.tg, .int .i64 y1.vl, .int .i64 y1.pr, .int .i64 y1.ty, .slice y1.A y1.n y1.cap] rfl ?_; intro w9 hf9 hb9; have HP9 := hide hb9; have hb89 : Below w8.heap.size w8 w9 := ((Below.refl w8.heap.size w8).alloc (Nat.le_refl _) (.cells #[.int .u8 0, .int .u8 0, .int .u8 0, .int .u8 0, .int .u8 0, .int .u8 0, .int .u8 0, .int .u8 0, .int .u8 0, .int .u8 0, .int .u8 0, .int .u8 0, .bool false, .int .i64 0, .int .i64 0, .int .i64 0, .slice none 0 0] 26)).trans (hf9.below (Nat.le_refl _) (by simp)); have HB9 := hide (HB8.out.trans (hb89.mono HB8.out.size)); have HSb9 := hide (SrcAt.mono (HSb8.out.below hb89 hsz78) (show w7.heap.size ≤ w9.heap.size from (by have := hb89.size; omega))); have hr9 : w8.heap.size < w9.heap.size := (Array.getElem?_eq_some_iff.1 hb9).1; clear hf9 hb9 hb89)
  have HX10 := decode_any (some ⟨gb, 0, none⟩) cb Nb xb bd w9 HRb.out HNb.out.symm HBd.out.1 HSb9.out
  with_reducible refine HX10.mono ?_
  clear HX10
  rintro e w10 ⟨y2, hy2, rfl, hb10⟩
  have HY2 := hide hy2
  have HB10 := hide (HB9.out.trans (hb10.mono HB9.out.size))
  have HP10 := hide ((hb10.block w8.heap.size hr9).trans HP9.out)
  obtain ⟨r1, hr1⟩ : ∃ r, r = w8.heap.size := ⟨_, rfl⟩
  have hr10 : r1 < w10.heap.size := by have := hb10.size; omega
  rw [← hr1] at HP10 ⊢
  have HN10 := hide (heap_alloc_new w10 (.cells #[.int .u8 0, .int .u8 0, .int .u8 0, .int .u8 0, .int .u8 0, .int .u8 0, .int .u8 0, .int .u8 0, .int .u8 0, .int .u8 0, .int .u8 0, .int .u8 0, .bool false, .int .i64 0, .int .i64 0, .int .i64 0, .slice none 0 0] 26))
  clear hb10 hy2 HSb9 HSb8 HP9 hr9 HB9 hsz78 HN8 HB8 hr1
  go_wp2_with (first
    | (refine wpList_store_at rfl rfl w10.heap.size 0 #[.int .u8 (y2.d0.toNat : Int), .int .u8 (y2.d1.toNat : Int), .int .u8 (y2.d2.toNat : Int), .int .u8 (y2.d3.toNat : Int), .int .u8 (y2.d4.toNat : Int), .int .u8 (y2.d5.toNat : Int), .int .u8 (y2.s0.toNat : Int), .int .u8 (y2.s1.toNat : Int), .int .u8 (y2.s2.toNat : Int), .int .u8 (y2.s3.toNat : Int), .int .u8 (y2.s4.toNat : Int), .int .u8 (y2.s5.toNat : Int), .bool y2.tg, .int .i64 y2.vl, .int .i64 y2.pr, .int .i64 y2.ty, .slice y2.A y2.n y2.cap] rfl rfl 26 HN10.out (by kernel_rfl) (by simp) (fra_ones y2) #[.int .u8 (y2.d0.toNat : Int), .int .u8 (y2.d1.toNat : Int), .int .u8 (y2.d2.toNat : Int), .int .u8 (y2.d3.toNat : Int), .int .u8 (y2.d4.toNat : Int), .int .u8 (y2.d5.toNat : Int), .int .u8 (y2.s0.toNat : Int), .int .u8 (y2.s1.toNat : Int), .int .u8 (y2.s2.toNat : Int), .int .u8 (y2.s3.toNat : Int), .int .u8 (y2.s4.toNat : Int), .int .u8 (y2.s5.toNat : Int), .bool y2.tg, .int .i64 y2.vl, .int .i64 y2.pr, .int .i64 y2.ty, .slice y2.A y2.n y2.cap] rfl ?_; intro w11 hf11 hb11; have HQ11 := hide hb11; have HP11 := hide (hf11.keep (show (w10.alloc (.cells #[.int .u8 0, .int .u8 0, .int .u8 0, .int .u8 0, .int .u8 0, .int .u8 0, .int .u8 0, .int .u8 0, .int .u8 0, .int .u8 0, .int .u8 0, .int .u8 0, .bool false, .int .i64 0, .int .i64 0, .int .i64 0, .slice none 0 0] 26)).heap[r1]? = _ from (Below.heap_alloc w10 _ _ hr10).trans HP10.out) (by omega)); have HB11 := hide ((HB10.out.alloc HB10.out.size (.cells #[.int .u8 0, .int .u8 0, .int .u8 0, .int .u8 0, .int .u8 0, .int .u8 0, .int .u8 0, .int .u8 0, .int .u8 0, .int .u8 0, .int .u8 0, .int .u8 0, .bool false, .int .i64 0, .int .i64 0, .int .i64 0, .slice none 0 0] 26)).trans (hf11.below HB10.out.size (by have := HB10.out.size; simp; omega))); clear hf11 hb11)
    | (refine wpList_load_part rfl 26 (.tmp 16) rfl r1 0 rfl 26 _ #[.int .u8 (y1.d0.toNat : Int), .int .u8 (y1.d1.toNat : Int), .int .u8 (y1.d2.toNat : Int), .int .u8 (y1.d3.toNat : Int), .int .u8 (y1.d4.toNat : Int), .int .u8 (y1.d5.toNat : Int), .int .u8 (y1.s0.toNat : Int), .int .u8 (y1.s1.toNat : Int), .int .u8 (y1.s2.toNat : Int), .int .u8 (y1.s3.toNat : Int), .int .u8 (y1.s4.toNat : Int), .int .u8 (y1.s5.toNat : Int), .bool y1.tg, .int .i64 y1.vl, .int .i64 y1.pr, .int .i64 y1.ty, .slice y1.A y1.n y1.cap] (0, 0) _ HP11.out Tryd.underlying26 rfl (by kernel_rfl) rfl ?_))
  obtain ⟨r2, hr2⟩ : ∃ r, r = w10.heap.size := ⟨_, rfl⟩
  rw [← hr2] at HQ11 ⊢
  clear hr2 HN10 HP10 HB10 hr10
  obtain ⟨H, hH⟩ : ∃ h, h = hashF x := ⟨_, rfl⟩
  have HHx := hide hH
  clear hH
  have hp11 : r1 < w11.heap.size := (Array.getElem?_eq_some_iff.1 HP11.out).1
  have hq11 : r2 < w11.heap.size := (Array.getElem?_eq_some_iff.1 HQ11.out).1
  have HX12 := show Calls Tryd.prog 5 #[.agg #[.int .u8 (y1.d0.toNat : Int), .int .u8 (y1.d1.toNat : Int), .int .u8 (y1.d2.toNat : Int), .int .u8 (y1.d3.toNat : Int), .int .u8 (y1.d4.toNat : Int), .int .u8 (y1.d5.toNat : Int), .int .u8 (y1.s0.toNat : Int), .int .u8 (y1.s1.toNat : Int), .int .u8 (y1.s2.toNat : Int), .int .u8 (y1.s3.toNat : Int), .int .u8 (y1.s4.toNat : Int), .int .u8 (y1.s5.toNat : Int), .bool y1.tg, .int .i64 y1.vl, .int .i64 y1.pr, .int .i64 y1.ty, .slice y1.A y1.n y1.cap]] w11 fun e w' => e = .returned (.int .u32 H) ∧ Below w11.heap.size w11 w' from by
    have h := hash_any y1 w11
    rwa [HY1.out.hash, ← HHx.out] at h
  with_reducible refine HX12.mono ?_
  clear HX12
  rintro e w12 ⟨rfl, hb12⟩
  have HP12 := hide ((hb12.block r1 hp11).trans HP11.out); have HQ12 := hide ((hb12.block r2 hq11).trans HQ11.out)
  have HB12 := hide (HB11.out.trans (hb12.mono HB11.out.size))
  have hUn : U.length = n2 - 1 := by have := HLn.out; simp at this; omega
  have hn2 : n2 ≤ 30 ∧ 2 ≤ n2 := by omega
  have HUn := hide hUn; have HU := hide (show IntsAt w b (o + 1) U from fun i hi => by have := HCi.out (i + 1) (by simp; omega); rw [show o + 1 + i = o + (i + 1) by omega, this]; simp)
  clear hb12 HP11 HQ11 HB11 hp11 hq11 hUn
  go_wp2_with fail
  have HX13 := choose_any (some ⟨b, o + 1, none⟩) (n2 - 1) (c2 - 1) H U w12 HUn.out (by omega) (.inr ⟨b, o + 1, rfl, by have := HB12.out.size; omega, HU.out.below HB12.out hbl⟩)
  obtain ⟨m, hm⟩ : ∃ m, m = chooseF H U := ⟨_, rfl⟩
  have HM := hide hm
  rw [← hm] at HX13
  clear hm
  with_reducible refine HX13.mono ?_
  clear HX13
  rintro e w13 ⟨rfl, hb13⟩
  have hp12 : r1 < w12.heap.size := (Array.getElem?_eq_some_iff.1 HP12.out).1
  have hq12 : r2 < w12.heap.size := (Array.getElem?_eq_some_iff.1 HQ12.out).1
  have HP13 := hide ((hb13.block r1 hp12).trans HP12.out); have HQ13 := hide ((hb13.block r2 hq12).trans HQ12.out)
  have HB13 := hide (HB12.out.trans (hb13.mono HB12.out.size))
  clear hb13 HP12 HQ12 HB12 hp12 hq12
  go_wp2_with (refine wpList_load_part rfl 26 (.tmp 18) rfl r2 0 rfl 26 _ #[.int .u8 (y2.d0.toNat : Int), .int .u8 (y2.d1.toNat : Int), .int .u8 (y2.d2.toNat : Int), .int .u8 (y2.d3.toNat : Int), .int .u8 (y2.d4.toNat : Int), .int .u8 (y2.d5.toNat : Int), .int .u8 (y2.s0.toNat : Int), .int .u8 (y2.s1.toNat : Int), .int .u8 (y2.s2.toNat : Int), .int .u8 (y2.s3.toNat : Int), .int .u8 (y2.s4.toNat : Int), .int .u8 (y2.s5.toNat : Int), .bool y2.tg, .int .i64 y2.vl, .int .i64 y2.pr, .int .i64 y2.ty, .slice y2.A y2.n y2.cap] (0, 0) _ HQ13.out Tryd.underlying26 rfl (by kernel_rfl) rfl ?_)
  have hp13 : r1 < w13.heap.size := (Array.getElem?_eq_some_iff.1 HP13.out).1
  have HX14 := show Calls Tryd.prog 5 #[.agg #[.int .u8 (y2.d0.toNat : Int), .int .u8 (y2.d1.toNat : Int), .int .u8 (y2.d2.toNat : Int), .int .u8 (y2.d3.toNat : Int), .int .u8 (y2.d4.toNat : Int), .int .u8 (y2.d5.toNat : Int), .int .u8 (y2.s0.toNat : Int), .int .u8 (y2.s1.toNat : Int), .int .u8 (y2.s2.toNat : Int), .int .u8 (y2.s3.toNat : Int), .int .u8 (y2.s4.toNat : Int), .int .u8 (y2.s5.toNat : Int), .bool y2.tg, .int .i64 y2.vl, .int .i64 y2.pr, .int .i64 y2.ty, .slice y2.A y2.n y2.cap]] w13 fun e w' => e = .returned (.int .u32 H) ∧ Below w13.heap.size w13 w' from by
    have h := hash_any y2 w13
    rw [HY2.out.hash, HXb.out] at h
    rw [HHx.out]
    exact h
  with_reducible refine HX14.mono ?_
  clear HX14
  rintro e w14 ⟨rfl, hb14⟩
  have HP14 := hide ((hb14.block r1 hp13).trans HP13.out)
  have HB14 := hide (HB13.out.trans (hb14.mono HB13.out.size))
  clear hb14 HP13 HQ13 HB13 hp13
  go_wp2_with fail
  have HX15 := choose_any (some ⟨b, o + 1, none⟩) (n2 - 1) (c2 - 1) H U w14 HUn.out (by omega) (.inr ⟨b, o + 1, rfl, by have := HB14.out.size; omega, HU.out.below HB14.out hbl⟩)
  rw [← HM.out] at HX15
  with_reducible refine HX15.mono ?_
  clear HX15
  rintro e w15 ⟨rfl, hb15⟩
  have hp14 : r1 < w14.heap.size := (Array.getElem?_eq_some_iff.1 HP14.out).1
  have HP15 := hide ((hb15.block r1 hp14).trans HP14.out)
  have HB15 := hide (HB14.out.trans (hb15.mono HB14.out.size))
  clear hb15 HP14 HB14 hp14
  go_wp2_with fail
  obtain ⟨i3, hi3, hz0, hz1, hz2⟩ := info_parts info3
  obtain ⟨base, hbase⟩ : ∃ n, n = w15.heap.size := ⟨_, rfl⟩
  have hbw : w.heap.size ≤ base := by have := HB15.out.size; omega
  have hrb : r1 < base := by have := (Array.getElem?_eq_some_iff.1 HP15.out).1; omega
  have HBs := hide hbase
  clear hbase
  go_loopw [24, 25] (fun v i wr => ∃ (k : Nat) (A' : Option Addr) (c' : Nat), k ≤ U.length ∧ i = .int .i64 k ∧ v = .slice A' (restF d U k).length c' ∧ wr.ownsRow base 3 1 (.slice A' (restF d U k).length c') (restF d U k).length (icells (restF d U k)) ∧ Below w.heap.size w wr ∧ wr.heap[r1]? = some (.cells #[.int .u8 (y1.d0.toNat : Int), .int .u8 (y1.d1.toNat : Int), .int .u8 (y1.d2.toNat : Int), .int .u8 (y1.d3.toNat : Int), .int .u8 (y1.d4.toNat : Int), .int .u8 (y1.d5.toNat : Int), .int .u8 (y1.s0.toNat : Int), .int .u8 (y1.s1.toNat : Int), .int .u8 (y1.s2.toNat : Int), .int .u8 (y1.s3.toNat : Int), .int .u8 (y1.s4.toNat : Int), .int .u8 (y1.s5.toNat : Int), .bool y1.tg, .int .i64 y1.vl, .int .i64 y1.pr, .int .i64 y1.ty, .slice y1.A y1.n y1.cap] 26 (0, 0)) ∧ base ≤ wr.heap.size) (fun _ i _ => U.length - (intOf i).toNat)
  case atStart => exact ⟨0, none, 0, by omega, rfl, rfl, World.ownsRow_nil _ _ _ _, HB15.out, HP15.out, by rw [HBs.out]; exact Nat.le_refl _⟩
  case round =>
    obtain ⟨k, A', c', hk, rfl, rfl, hown, hbel, hpr, hbs⟩ := hrel
    have HO := hide hown; have HBe := hide hbel; have HPr := hide hpr
    have hUl := HUn.out
    by_cases hlt : k < U.length
    · have g5 : (k : Int) < ((n2 - 1 : Nat) : Int) := by omega
      have g5' : (k : Int) < (n2 : Int) - 1 := by omega
      have g6 : (0 : Int) ≤ (k : Int) := by omega
      obtain ⟨y, hy⟩ : ∃ y, y = U[k] := ⟨_, rfl⟩
      have cy : wr.cell? ⟨b, o + 1 + k, none⟩ = some (.int .i64 y) := by rw [hy]; exact (hbel.cell (by exact hbl)).trans (HU.out k hlt)
      have HR := hide (restF_snoc d U k hlt)
      rw [← hy] at HR
      clear hown hbel hpr hy
      by_cases hyd : y = d
      · have HR2 := hide (HR.out.trans (if_neg (by simpa using hyd)))
        go_wp2_with fail
        go_roundw
        case rel => exact ⟨k + 1, A', c', by omega, by go_num, by rw [HR2.out], by rw [HR2.out]; exact HO.out, HBe.out, HPr.out, hbs⟩
        case measure => simp [intOf]; omega
      · have HR2 := hide (HR.out.trans (if_pos (by simpa using hyd)))
        have HOA := hide (HO.out.alloc (.cells #[.int .i64 y] 3))
        have hrl : (restF d U k).length ≤ k := by unfold restF; exact Nat.le_trans (List.length_filter_le _ _) (by rw [List.length_take]; omega)
        have hpl : r1 < wr.heap.size := (Array.getElem?_eq_some_iff.1 HPr.out).1
        go_wp2_with (at_builtin; go_loud (refine wpList_append_own _ rfl (.tmp 120) (.tmp 125) 27 rfl base 3 i3 (.int .i64 0) 1 8 Tryd.underlying27 hi3 hz0 hz1 hz2 rfl (by decide) _ _ _ rfl HOA.out ⟨wr.heap.size, 0, none⟩ 1 1 [.int .i64 y] rfl rfl ?c1 ?c2 ?c3 ?c4 ?c5 ?_))
        case c1 => exact World.news_of_block (heap_alloc_new wr (.cells #[.int .i64 y] 3))
        case c2 => intro u hu; simp at hu; subst hu; rfl
        case c3 => unfold maxLen; omega
        case c4 => omega
        case c5 => simp; omega
        intro v3 w3' hown3 hgr3 _
        obtain ⟨A3, c3, rfl⟩ : ∃ A3 c3, v3 = .slice A3 ((restF d U k).length + 1) c3 := by
          rcases hown3.2 with ⟨_, h0⟩ | ⟨g3, cap3, cur, rfl, _⟩
          · omega
          · exact ⟨_, _, rfl⟩
        have hl3 : (restF d U (k + 1)).length = (restF d U k).length + 1 := by rw [HR2.out]; simp
        have HO3 := hide (show w3'.ownsRow base 3 1 (.slice A3 (restF d U (k + 1)).length c3) (restF d U (k + 1)).length (icells (restF d U (k + 1))) by
          rw [hl3, HR2.out]
          have e : icells (restF d U k ++ [y]) = icells (restF d U k) ++ [.int .i64 y] := by simp [icells]
          rw [e]
          exact hown3)
        have hro : ∀ j, (Value.slice A' (restF d U k).length c').ownBlock = some j → base ≤ j := fun j hj => (HO.out.lt j hj).1
        have HB3' := hide ((HBe.out.alloc HBe.out.size (.cells #[.int .i64 y] 3)).grown hgr3 (by simp; omega) (fun j hj => by have := hro j hj; omega))
        have HP3' := hide ((hgr3.block r1 (by simp; omega) (fun e => by have := hro r1 e.symm; omega)).trans ((Below.heap_alloc wr _ r1 hpl).trans HPr.out))
        have hb3 : base ≤ w3'.heap.size := by have := hgr3.size; simp at this; omega
        have HL3 := hide hl3
        clear hown3 hgr3 hro hl3 HOA HO HBe HPr
        go_wp2_with fail
        go_roundw
        case rel => exact ⟨k + 1, A3, c3, by omega, by go_num, by rw [HL3.out], HO3.out, HB3'.out, HP3'.out, hb3⟩
        case measure => simp [intOf]; omega
    · obtain rfl : k = U.length := by omega
      have g5 : ¬ (U.length : Int) < ((n2 - 1 : Nat) : Int) := by omega
      have g5' : ¬ (U.length : Int) < (n2 : Int) - 1 := by omega
      have HF := hide (show restF d U U.length = U.filter fun y => decide (y ≠ d) by unfold restF; rw [List.take_length])
      obtain ⟨F, hF⟩ : ∃ F, F = restF d U U.length := ⟨_, rfl⟩
      have HFe := hide hF
      rw [← hF] at HO ⊢
      have hfl : F.length ≤ U.length := by rw [hF, HF.out]; exact List.length_filter_le _ _
      clear hown hbel hpr hF
      go_wp2_with (refine wpList_load_part rfl 26 (.tmp 16) rfl r1 0 rfl 26 _ #[.int .u8 (y1.d0.toNat : Int), .int .u8 (y1.d1.toNat : Int), .int .u8 (y1.d2.toNat : Int), .int .u8 (y1.d3.toNat : Int), .int .u8 (y1.d4.toNat : Int), .int .u8 (y1.d5.toNat : Int), .int .u8 (y1.s0.toNat : Int), .int .u8 (y1.s1.toNat : Int), .int .u8 (y1.s2.toNat : Int), .int .u8 (y1.s3.toNat : Int), .int .u8 (y1.s4.toNat : Int), .int .u8 (y1.s5.toNat : Int), .bool y1.tg, .int .i64 y1.vl, .int .i64 y1.pr, .int .i64 y1.ty, .slice y1.A y1.n y1.cap] (0, 0) _ HPr.out Tryd.underlying26 rfl (by kernel_rfl) rfl ?_)
      have HX16 := show Calls Tryd.prog 5 #[.agg #[.int .u8 (y1.d0.toNat : Int), .int .u8 (y1.d1.toNat : Int), .int .u8 (y1.d2.toNat : Int), .int .u8 (y1.d3.toNat : Int), .int .u8 (y1.d4.toNat : Int), .int .u8 (y1.d5.toNat : Int), .int .u8 (y1.s0.toNat : Int), .int .u8 (y1.s1.toNat : Int), .int .u8 (y1.s2.toNat : Int), .int .u8 (y1.s3.toNat : Int), .int .u8 (y1.s4.toNat : Int), .int .u8 (y1.s5.toNat : Int), .bool y1.tg, .int .i64 y1.vl, .int .i64 y1.pr, .int .i64 y1.ty, .slice y1.A y1.n y1.cap]] wr fun e w' => e = .returned (.int .u32 H) ∧ Below wr.heap.size wr w' from by
        have h := hash_any y1 wr
        rwa [HY1.out.hash, ← HHx.out] at h
      with_reducible refine HX16.mono ?_
      clear HX16
      rintro e w16 ⟨rfl, hb16⟩
      have HB16 := hide (HBe.out.trans (hb16.mono HBe.out.size))
      have HI16 := hide (show IntSl w16 w16.heap.size A' F by
        rcases HO.out.2 with ⟨_, h0⟩ | ⟨g3, cap3, cur, h0, _, hg3, _⟩
        · exact .inl (List.eq_nil_of_length_eq_zero h0)
        · injection h0 with h0 _ _
          subst h0
          have hgl : g3 < wr.heap.size := (Array.getElem?_eq_some_iff.1 hg3).1
          refine .inr ⟨g3, 0, rfl, by have := hb16.size; omega, fun i hi => ?_⟩
          have hcc := HO.out.cells (g := g3) rfl i (.int .i64 F[i]) (by simp [icells, hi])
          rw [Lib.addr_add] at hcc
          exact (hb16.cell (by exact hgl)).trans hcc)
      clear hb16 HBe HPr HO
      go_wp2_with fail
      have HX17 := choose_any A' F.length c' H F w16 rfl (by omega) HI16.out
      with_reducible refine HX17.mono ?_
      clear HX17
      rintro e w17 ⟨rfl, hb17⟩
      have HB17 := hide (HB16.out.trans (hb17.mono HB16.out.size))
      have hUne : U ≠ [] := fun e => by rw [e] at hUl; simp at hUl; omega
      clear hb17 HB16 HI16
      by_cases hmd : m = d
      · go_wp2_with fail
        go_ret
        exact ⟨by simp, HB17.out⟩
      · have HCh := hide (show chooseF H F = m by rw [HFe.out, HF.out, HM.out]; exact choose_stays H d U hUne (by rw [← HM.out]; exact hmd))
        rw [HCh.out]
        go_wp2_with fail
        go_ret
        exact ⟨by simp, HB17.out⟩
end Go.Proofs.YtehhldpmhlocdaaDoor

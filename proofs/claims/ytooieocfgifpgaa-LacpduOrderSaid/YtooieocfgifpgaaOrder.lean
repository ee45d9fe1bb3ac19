/-
  Proved: LacpduOrder: each info knows itself; systems are in an order: none is ahead of itself, of two at most one, of three each as they stand; the law answers true.
  No condition.
-/
import Derived.Test.YtooieocfgifpgaaLpL
namespace Go.Proofs.Ytooieocfgifpgaa
open Go.RowKit Go.ChangeShapes Go.WideShapes Go.ChangeAt
set_option linter.unusedVariables false

def Inf.num (x : Inf) : Int := num6 x.m0 x.m1 x.m2 x.m3 x.m4 x.m5
theorem less_iff (x y : Inf) : less x y = true ↔ x.sp < y.sp ∨ (x.sp = y.sp ∧ x.num < y.num) := by
  have : cmp6 x.m0 x.m1 x.m2 x.m3 x.m4 x.m5 y.m0 y.m1 y.m2 y.m3 y.m4 y.m5 < 0 ↔ x.num < y.num := by
    show cmpI x.num y.num < 0 ↔ _
    unfold cmpI
    split
    · simp; omega
    · split <;> simp <;> omega
  simp [less, this]
theorem eqM_iff {x y : Inf} (hx : x.wf) (hy : y.wf) : eqM x y = true ↔ x.num = y.num := by
  obtain ⟨-, x0, x1, x2, x3, x4, x5, -, -, -, -⟩ := hx
  obtain ⟨-, y0, y1, y2, y3, y4, y5, -, -, -, -⟩ := hy
  simp only [eqM, decide_eq_true_eq, Inf.num, num6]
  omega
theorem knows_self (x : Inf) : knows x x = true := by
  simp [knows, eqI_self]
theorem less_self (x : Inf) : less x x = false := by
  rw [Bool.eq_false_iff, ne_eq, less_iff]; omega
theorem less_asym {x y : Inf} (h : less x y = true) : less y x = false := by
  rw [Bool.eq_false_iff, ne_eq, less_iff]; rw [less_iff] at h; omega
theorem less_trans {x y z : Inf} (h : less x y = true) (h2 : less y z = true) : less x z = true := by
  rw [less_iff] at *; omega
theorem less_tri {x y : Inf} (hx : x.wf) (hy : y.wf) (h : less x y = false) (hs : ((x.sp == y.sp) && eqM x y) = false) : less y x = true := by
  rw [Bool.eq_false_iff, ne_eq, less_iff] at h
  rw [Bool.eq_false_iff, ne_eq, Bool.and_eq_true, beq_iff_eq, eqM_iff hx hy] at hs
  rw [less_iff]; omega

theorem wpList_load_g {P : Program} {ops : Array Oper} {rest : List Oper} {o : Oper} {a : Act} {w : World} {Q : Exit → Act → World → Prop} {ty : TypeId} {x : Operand} (ho : o.op = .load ty x) (hgd : Region.wanted o (yielded ops a.tmps) = true)
    (g off : Nat) (hx : a.eval x = .pointer (some ⟨g, off, none⟩)) (t : TypeId) {cs : Array Value} (vs : Array Value) (fr : Nat × Nat) (d : TypeDesc) (hg : w.heap[g]? = some (.cells cs t fr))
    (hu : P.underlying ty = some d) (hd : (match d with | .struct _ | .array _ _ => true | _ => false) = true) (hi : (P.info? ty).map (·.size) = some vs.size) (hvs : (cs.toList.drop off).take vs.size = vs.toList)
    (h : wpList P ops Q rest (a.put o.dst (.agg vs)) w) : wpList P ops Q (o :: rest) a w :=
  wpList_run hgd (.agg vs) (run_load_part ty x ho g off hx t cs vs fr d hg hu hd hi hvs) h

/-- A call and its answer. -/
def Tells (f : Nat) (x y : Inf) (r : Bool) : Prop := ∀ u, Calls Try.prog f #[.agg #[.int .i64 x.sp, .int .u8 x.m0, .int .u8 x.m1, .int .u8 x.m2, .int .u8 x.m3, .int .u8 x.m4, .int .u8 x.m5, .int .i64 x.key, .int .i64 x.pp, .int .i64 x.port, .int .i64 x.st], .agg #[.int .i64 y.sp, .int .u8 y.m0, .int .u8 y.m1, .int .u8 y.m2, .int .u8 y.m3, .int .u8 y.m4, .int .u8 y.m5, .int .i64 y.key, .int .i64 y.pp, .int .i64 y.port, .int .i64 y.st]] u fun e w' => e = .returned (.bool r) ∧ Below u.heap.size u w'

set_option maxRecDepth 100000 in
set_option maxHeartbeats 8000000 in
theorem order_walk (a b c : Inf) (w : World) (ab bc ac ba b0 m : Bool) (Hab : Hid (Tells 21 a b ab)) (Hbc : Hid (Tells 21 b c bc)) (Hac : Hid (Tells 21 a c ac)) (Hba : Hid (Tells 21 b a ba)) (Haa : Hid (Tells 21 a a false)) (Hkk : Hid (Tells 19 a a true))
    (h0 : (a.sp == b.sp) = b0) (hm : ∀ w, (Op.equalIn 10000 23 (.agg #[.int .u8 a.m0, .int .u8 a.m1, .int .u8 a.m2, .int .u8 a.m3, .int .u8 a.m4, .int .u8 a.m5]) (.agg #[.int .u8 b.m0, .int .u8 b.m1, .int .u8 b.m2, .int .u8 b.m3, .int .u8 b.m4, .int .u8 b.m5])).run Try.prog w = .ok m w)
    (h1 : ab = true → ba = false) (h2 : ab = true → bc = true → ac = true) (h3 : ab = false → (b0 && m) = false → ba = true) :
    Calls Try.prog 6 #[.agg #[.int .i64 a.sp, .int .u8 a.m0, .int .u8 a.m1, .int .u8 a.m2, .int .u8 a.m3, .int .u8 a.m4, .int .u8 a.m5, .int .i64 a.key, .int .i64 a.pp, .int .i64 a.port, .int .i64 a.st], .agg #[.int .i64 b.sp, .int .u8 b.m0, .int .u8 b.m1, .int .u8 b.m2, .int .u8 b.m3, .int .u8 b.m4, .int .u8 b.m5, .int .i64 b.key, .int .i64 b.pp, .int .i64 b.port, .int .i64 b.st], .agg #[.int .i64 c.sp, .int .u8 c.m0, .int .u8 c.m1, .int .u8 c.m2, .int .u8 c.m3, .int .u8 c.m4, .int .u8 c.m5, .int .i64 c.key, .int .i64 c.pp, .int .i64 c.port, .int .i64 c.st]] w fun e w' => e = .returned (.bool true) ∧ Below w.heap.size w w' := by
  have HB0 := hide (show (((w.alloc (.cells #[.int .i64 a.sp, .int .u8 a.m0, .int .u8 a.m1, .int .u8 a.m2, .int .u8 a.m3, .int .u8 a.m4, .int .u8 a.m5, .int .i64 a.key, .int .i64 a.pp, .int .i64 a.port, .int .i64 a.st] 25)).alloc (.cells #[.int .i64 b.sp, .int .u8 b.m0, .int .u8 b.m1, .int .u8 b.m2, .int .u8 b.m3, .int .u8 b.m4, .int .u8 b.m5, .int .i64 b.key, .int .i64 b.pp, .int .i64 b.port, .int .i64 b.st] 25)).alloc (.cells #[.int .i64 c.sp, .int .u8 c.m0, .int .u8 c.m1, .int .u8 c.m2, .int .u8 c.m3, .int .u8 c.m4, .int .u8 c.m5, .int .i64 c.key, .int .i64 c.pp, .int .i64 c.port, .int .i64 c.st] 25)).heap[w.heap.size]? = some (.cells #[.int .i64 a.sp, .int .u8 a.m0, .int .u8 a.m1, .int .u8 a.m2, .int .u8 a.m3, .int .u8 a.m4, .int .u8 a.m5, .int .i64 a.key, .int .i64 a.pp, .int .i64 a.port, .int .i64 a.st] 25 (0, 0)) from (Below.heap_alloc _ _ _ (by simp; omega)).trans ((Below.heap_alloc _ _ _ (by simp)).trans (heap_alloc_new _ _)))
  have HB0' := hide (show (((w.alloc (.cells #[.int .i64 a.sp, .int .u8 a.m0, .int .u8 a.m1, .int .u8 a.m2, .int .u8 a.m3, .int .u8 a.m4, .int .u8 a.m5, .int .i64 a.key, .int .i64 a.pp, .int .i64 a.port, .int .i64 a.st] 25)).alloc (.cells #[.int .i64 b.sp, .int .u8 b.m0, .int .u8 b.m1, .int .u8 b.m2, .int .u8 b.m3, .int .u8 b.m4, .int .u8 b.m5, .int .i64 b.key, .int .i64 b.pp, .int .i64 b.port, .int .i64 b.st] 25)).alloc (.cells #[.int .i64 c.sp, .int .u8 c.m0, .int .u8 c.m1, .int .u8 c.m2, .int .u8 c.m3, .int .u8 c.m4, .int .u8 c.m5, .int .i64 c.key, .int .i64 c.pp, .int .i64 c.port, .int .i64 c.st] 25)).heap[w.heap.size + 1]? = some (.cells #[.int .i64 b.sp, .int .u8 b.m0, .int .u8 b.m1, .int .u8 b.m2, .int .u8 b.m3, .int .u8 b.m4, .int .u8 b.m5, .int .i64 b.key, .int .i64 b.pp, .int .i64 b.port, .int .i64 b.st] 25 (0, 0)) from (Below.heap_alloc _ _ _ (by simp)).trans (by simpa using heap_alloc_new (w.alloc (.cells #[.int .i64 a.sp, .int .u8 a.m0, .int .u8 a.m1, .int .u8 a.m2, .int .u8 a.m3, .int .u8 a.m4, .int .u8 a.m5, .int .i64 a.key, .int .i64 a.pp, .int .i64 a.port, .int .i64 a.st] 25)) (.cells #[.int .i64 b.sp, .int .u8 b.m0, .int .u8 b.m1, .int .u8 b.m2, .int .u8 b.m3, .int .u8 b.m4, .int .u8 b.m5, .int .i64 b.key, .int .i64 b.pp, .int .i64 b.port, .int .i64 b.st] 25)))
  have HB0'' := hide (show (((w.alloc (.cells #[.int .i64 a.sp, .int .u8 a.m0, .int .u8 a.m1, .int .u8 a.m2, .int .u8 a.m3, .int .u8 a.m4, .int .u8 a.m5, .int .i64 a.key, .int .i64 a.pp, .int .i64 a.port, .int .i64 a.st] 25)).alloc (.cells #[.int .i64 b.sp, .int .u8 b.m0, .int .u8 b.m1, .int .u8 b.m2, .int .u8 b.m3, .int .u8 b.m4, .int .u8 b.m5, .int .i64 b.key, .int .i64 b.pp, .int .i64 b.port, .int .i64 b.st] 25)).alloc (.cells #[.int .i64 c.sp, .int .u8 c.m0, .int .u8 c.m1, .int .u8 c.m2, .int .u8 c.m3, .int .u8 c.m4, .int .u8 c.m5, .int .i64 c.key, .int .i64 c.pp, .int .i64 c.port, .int .i64 c.st] 25)).heap[w.heap.size + 2]? = some (.cells #[.int .i64 c.sp, .int .u8 c.m0, .int .u8 c.m1, .int .u8 c.m2, .int .u8 c.m3, .int .u8 c.m4, .int .u8 c.m5, .int .i64 c.key, .int .i64 c.pp, .int .i64 c.port, .int .i64 c.st] 25 (0, 0)) from (by simpa using heap_alloc_new ((w.alloc (.cells #[.int .i64 a.sp, .int .u8 a.m0, .int .u8 a.m1, .int .u8 a.m2, .int .u8 a.m3, .int .u8 a.m4, .int .u8 a.m5, .int .i64 a.key, .int .i64 a.pp, .int .i64 a.port, .int .i64 a.st] 25)).alloc (.cells #[.int .i64 b.sp, .int .u8 b.m0, .int .u8 b.m1, .int .u8 b.m2, .int .u8 b.m3, .int .u8 b.m4, .int .u8 b.m5, .int .i64 b.key, .int .i64 b.pp, .int .i64 b.port, .int .i64 b.st] 25)) (.cells #[.int .i64 c.sp, .int .u8 c.m0, .int .u8 c.m1, .int .u8 c.m2, .int .u8 c.m3, .int .u8 c.m4, .int .u8 c.m5, .int .i64 c.key, .int .i64 c.pp, .int .i64 c.port, .int .i64 c.st] 25)))
  cases ab
  · cases b0
    · obtain rfl := h3 rfl rfl
      clear h1 h2 h3
      go_enter Try.func6, Try.ntmps6
      go_wp2_with fail
      refine (awake_any _).mono ?_
      rintro e w1 ⟨rfl, hb1⟩
      have hz1 := hb1.size
      simp at hz1
      have hs1 : w.heap.size + 2 < w1.heap.size := by omega
      have HB1 := hide (((((Below.refl w.heap.size w).alloc (Nat.le_refl _) (.cells #[.int .i64 a.sp, .int .u8 a.m0, .int .u8 a.m1, .int .u8 a.m2, .int .u8 a.m3, .int .u8 a.m4, .int .u8 a.m5, .int .i64 a.key, .int .i64 a.pp, .int .i64 a.port, .int .i64 a.st] 25)).alloc (by simp) (.cells #[.int .i64 b.sp, .int .u8 b.m0, .int .u8 b.m1, .int .u8 b.m2, .int .u8 b.m3, .int .u8 b.m4, .int .u8 b.m5, .int .i64 b.key, .int .i64 b.pp, .int .i64 b.port, .int .i64 b.st] 25)).alloc (by simp <;> omega) (.cells #[.int .i64 c.sp, .int .u8 c.m0, .int .u8 c.m1, .int .u8 c.m2, .int .u8 c.m3, .int .u8 c.m4, .int .u8 c.m5, .int .i64 c.key, .int .i64 c.pp, .int .i64 c.port, .int .i64 c.st] 25)).trans (hb1.mono (by simp <;> omega)))
      have HKa1 := hide (show w1.heap[w.heap.size]? = some (.cells #[.int .i64 a.sp, .int .u8 a.m0, .int .u8 a.m1, .int .u8 a.m2, .int .u8 a.m3, .int .u8 a.m4, .int .u8 a.m5, .int .i64 a.key, .int .i64 a.pp, .int .i64 a.port, .int .i64 a.st] 25 (0, 0)) from (hb1.block w.heap.size (by simp; omega)).trans HB0.out)
      have HKb1 := hide (show w1.heap[w.heap.size + 1]? = some (.cells #[.int .i64 b.sp, .int .u8 b.m0, .int .u8 b.m1, .int .u8 b.m2, .int .u8 b.m3, .int .u8 b.m4, .int .u8 b.m5, .int .i64 b.key, .int .i64 b.pp, .int .i64 b.port, .int .i64 b.st] 25 (0, 0)) from (hb1.block (w.heap.size + 1) (by simp <;> omega)).trans HB0'.out)
      have HKc1 := hide (show w1.heap[w.heap.size + 2]? = some (.cells #[.int .i64 c.sp, .int .u8 c.m0, .int .u8 c.m1, .int .u8 c.m2, .int .u8 c.m3, .int .u8 c.m4, .int .u8 c.m5, .int .i64 c.key, .int .i64 c.pp, .int .i64 c.port, .int .i64 c.st] 25 (0, 0)) from (hb1.block (w.heap.size + 2) (by simp)).trans HB0''.out)
      clear hb1 hz1
      go_wp2_with (first | (refine wpList_load_g (ty := 25) (x := .tmp 3) rfl rfl w.heap.size 0 rfl 25 #[.int .i64 a.sp, .int .u8 a.m0, .int .u8 a.m1, .int .u8 a.m2, .int .u8 a.m3, .int .u8 a.m4, .int .u8 a.m5, .int .i64 a.key, .int .i64 a.pp, .int .i64 a.port, .int .i64 a.st] (0, 0) _ HKa1.out Try.underlying25 rfl (by kernel_rfl) rfl ?_) | (refine wpList_load_g (ty := 25) (x := .tmp 4) rfl rfl (w.heap.size + 1) 0 rfl 25 #[.int .i64 b.sp, .int .u8 b.m0, .int .u8 b.m1, .int .u8 b.m2, .int .u8 b.m3, .int .u8 b.m4, .int .u8 b.m5, .int .i64 b.key, .int .i64 b.pp, .int .i64 b.port, .int .i64 b.st] (0, 0) _ HKb1.out Try.underlying25 rfl (by kernel_rfl) rfl ?_) | (refine wpList_load_g (ty := 25) (x := .tmp 5) rfl rfl (w.heap.size + 2) 0 rfl 25 #[.int .i64 c.sp, .int .u8 c.m0, .int .u8 c.m1, .int .u8 c.m2, .int .u8 c.m3, .int .u8 c.m4, .int .u8 c.m5, .int .i64 c.key, .int .i64 c.pp, .int .i64 c.port, .int .i64 c.st] (0, 0) _ HKc1.out Try.underlying25 rfl (by kernel_rfl) rfl ?_))
      refine (Hab.out w1).mono ?_
      rintro e w2 ⟨rfl, hb1⟩
      have hz1 := hb1.size
      have hs2 : w.heap.size + 2 < w2.heap.size := by omega
      have HB2 := hide (HB1.out.trans (hb1.mono (by omega)))
      have HKa2 := hide ((hb1.block w.heap.size (by omega)).trans HKa1.out)
      have HKb2 := hide ((hb1.block (w.heap.size + 1) (by omega)).trans HKb1.out)
      have HKc2 := hide ((hb1.block (w.heap.size + 2) (by omega)).trans HKc1.out)
      clear hb1 hz1 hs1 HB1 HKa1 HKb1 HKc1
      go_wp2_with (first | (refine wpList_load_g (ty := 25) (x := .tmp 3) rfl rfl w.heap.size 0 rfl 25 #[.int .i64 a.sp, .int .u8 a.m0, .int .u8 a.m1, .int .u8 a.m2, .int .u8 a.m3, .int .u8 a.m4, .int .u8 a.m5, .int .i64 a.key, .int .i64 a.pp, .int .i64 a.port, .int .i64 a.st] (0, 0) _ HKa2.out Try.underlying25 rfl (by kernel_rfl) rfl ?_) | (refine wpList_load_g (ty := 25) (x := .tmp 4) rfl rfl (w.heap.size + 1) 0 rfl 25 #[.int .i64 b.sp, .int .u8 b.m0, .int .u8 b.m1, .int .u8 b.m2, .int .u8 b.m3, .int .u8 b.m4, .int .u8 b.m5, .int .i64 b.key, .int .i64 b.pp, .int .i64 b.port, .int .i64 b.st] (0, 0) _ HKb2.out Try.underlying25 rfl (by kernel_rfl) rfl ?_) | (refine wpList_load_g (ty := 25) (x := .tmp 5) rfl rfl (w.heap.size + 2) 0 rfl 25 #[.int .i64 c.sp, .int .u8 c.m0, .int .u8 c.m1, .int .u8 c.m2, .int .u8 c.m3, .int .u8 c.m4, .int .u8 c.m5, .int .i64 c.key, .int .i64 c.pp, .int .i64 c.port, .int .i64 c.st] (0, 0) _ HKc2.out Try.underlying25 rfl (by kernel_rfl) rfl ?_))
      refine (Hbc.out w2).mono ?_
      rintro e w3 ⟨rfl, hb1⟩
      have hz1 := hb1.size
      have hs3 : w.heap.size + 2 < w3.heap.size := by omega
      have HB3 := hide (HB2.out.trans (hb1.mono (by omega)))
      have HKa3 := hide ((hb1.block w.heap.size (by omega)).trans HKa2.out)
      have HKb3 := hide ((hb1.block (w.heap.size + 1) (by omega)).trans HKb2.out)
      have HKc3 := hide ((hb1.block (w.heap.size + 2) (by omega)).trans HKc2.out)
      clear hb1 hz1 hs2 HB2 HKa2 HKb2 HKc2
      go_wp2_with (first | (refine wpList_load_g (ty := 25) (x := .tmp 3) rfl rfl w.heap.size 0 rfl 25 #[.int .i64 a.sp, .int .u8 a.m0, .int .u8 a.m1, .int .u8 a.m2, .int .u8 a.m3, .int .u8 a.m4, .int .u8 a.m5, .int .i64 a.key, .int .i64 a.pp, .int .i64 a.port, .int .i64 a.st] (0, 0) _ HKa3.out Try.underlying25 rfl (by kernel_rfl) rfl ?_) | (refine wpList_load_g (ty := 25) (x := .tmp 4) rfl rfl (w.heap.size + 1) 0 rfl 25 #[.int .i64 b.sp, .int .u8 b.m0, .int .u8 b.m1, .int .u8 b.m2, .int .u8 b.m3, .int .u8 b.m4, .int .u8 b.m5, .int .i64 b.key, .int .i64 b.pp, .int .i64 b.port, .int .i64 b.st] (0, 0) _ HKb3.out Try.underlying25 rfl (by kernel_rfl) rfl ?_) | (refine wpList_load_g (ty := 25) (x := .tmp 5) rfl rfl (w.heap.size + 2) 0 rfl 25 #[.int .i64 c.sp, .int .u8 c.m0, .int .u8 c.m1, .int .u8 c.m2, .int .u8 c.m3, .int .u8 c.m4, .int .u8 c.m5, .int .i64 c.key, .int .i64 c.pp, .int .i64 c.port, .int .i64 c.st] (0, 0) _ HKc3.out Try.underlying25 rfl (by kernel_rfl) rfl ?_))
      refine (Hac.out w3).mono ?_
      rintro e w4 ⟨rfl, hb1⟩
      have hz1 := hb1.size
      have hs4 : w.heap.size + 2 < w4.heap.size := by omega
      have HB4 := hide (HB3.out.trans (hb1.mono (by omega)))
      have HKa4 := hide ((hb1.block w.heap.size (by omega)).trans HKa3.out)
      have HKb4 := hide ((hb1.block (w.heap.size + 1) (by omega)).trans HKb3.out)
      have HKc4 := hide ((hb1.block (w.heap.size + 2) (by omega)).trans HKc3.out)
      clear hb1 hz1 hs3 HB3 HKa3 HKb3 HKc3
      have ca : w4.cell? ⟨w.heap.size, 0, none⟩ = some (.int .i64 a.sp) := cell_of_row w4 _ 0 _ 25 (0, 0) HKa4.out
      have cb : w4.cell? ⟨w.heap.size + 1, 0, none⟩ = some (.int .i64 b.sp) := cell_of_row w4 _ 0 _ 25 (0, 0) HKb4.out
      have ca0 : w4.cell? ⟨w.heap.size, 1, none⟩ = some (.int .u8 a.m0) := cell_of_row w4 _ 1 _ 25 (0, 0) HKa4.out
      have ca1 : w4.cell? ⟨w.heap.size, 2, none⟩ = some (.int .u8 a.m1) := cell_of_row w4 _ 2 _ 25 (0, 0) HKa4.out
      have ca2 : w4.cell? ⟨w.heap.size, 3, none⟩ = some (.int .u8 a.m2) := cell_of_row w4 _ 3 _ 25 (0, 0) HKa4.out
      have ca3 : w4.cell? ⟨w.heap.size, 4, none⟩ = some (.int .u8 a.m3) := cell_of_row w4 _ 4 _ 25 (0, 0) HKa4.out
      have ca4 : w4.cell? ⟨w.heap.size, 5, none⟩ = some (.int .u8 a.m4) := cell_of_row w4 _ 5 _ 25 (0, 0) HKa4.out
      have ca5 : w4.cell? ⟨w.heap.size, 6, none⟩ = some (.int .u8 a.m5) := cell_of_row w4 _ 6 _ 25 (0, 0) HKa4.out
      have cb0 : w4.cell? ⟨w.heap.size + 1, 1, none⟩ = some (.int .u8 b.m0) := cell_of_row w4 _ 1 _ 25 (0, 0) HKb4.out
      have cb1 : w4.cell? ⟨w.heap.size + 1, 2, none⟩ = some (.int .u8 b.m1) := cell_of_row w4 _ 2 _ 25 (0, 0) HKb4.out
      have cb2 : w4.cell? ⟨w.heap.size + 1, 3, none⟩ = some (.int .u8 b.m2) := cell_of_row w4 _ 3 _ 25 (0, 0) HKb4.out
      have cb3 : w4.cell? ⟨w.heap.size + 1, 4, none⟩ = some (.int .u8 b.m3) := cell_of_row w4 _ 4 _ 25 (0, 0) HKb4.out
      have cb4 : w4.cell? ⟨w.heap.size + 1, 5, none⟩ = some (.int .u8 b.m4) := cell_of_row w4 _ 5 _ 25 (0, 0) HKb4.out
      have cb5 : w4.cell? ⟨w.heap.size + 1, 6, none⟩ = some (.int .u8 b.m5) := cell_of_row w4 _ 6 _ 25 (0, 0) HKb4.out
      go_wp2_with (first | (refine wpList_load_g (ty := 25) (x := .tmp 3) rfl rfl w.heap.size 0 rfl 25 #[.int .i64 a.sp, .int .u8 a.m0, .int .u8 a.m1, .int .u8 a.m2, .int .u8 a.m3, .int .u8 a.m4, .int .u8 a.m5, .int .i64 a.key, .int .i64 a.pp, .int .i64 a.port, .int .i64 a.st] (0, 0) _ HKa4.out Try.underlying25 rfl (by kernel_rfl) rfl ?_) | (refine wpList_load_g (ty := 25) (x := .tmp 4) rfl rfl (w.heap.size + 1) 0 rfl 25 #[.int .i64 b.sp, .int .u8 b.m0, .int .u8 b.m1, .int .u8 b.m2, .int .u8 b.m3, .int .u8 b.m4, .int .u8 b.m5, .int .i64 b.key, .int .i64 b.pp, .int .i64 b.port, .int .i64 b.st] (0, 0) _ HKb4.out Try.underlying25 rfl (by kernel_rfl) rfl ?_) | (refine wpList_load_g (ty := 25) (x := .tmp 5) rfl rfl (w.heap.size + 2) 0 rfl 25 #[.int .i64 c.sp, .int .u8 c.m0, .int .u8 c.m1, .int .u8 c.m2, .int .u8 c.m3, .int .u8 c.m4, .int .u8 c.m5, .int .i64 c.key, .int .i64 c.pp, .int .i64 c.port, .int .i64 c.st] (0, 0) _ HKc4.out Try.underlying25 rfl (by kernel_rfl) rfl ?_))
      refine (Hkk.out w4).mono ?_
      rintro e w5 ⟨rfl, hb1⟩
      have hz1 := hb1.size
      have hs5 : w.heap.size + 2 < w5.heap.size := by omega
      have HB5 := hide (HB4.out.trans (hb1.mono (by omega)))
      have HKa5 := hide ((hb1.block w.heap.size (by omega)).trans HKa4.out)
      have HKb5 := hide ((hb1.block (w.heap.size + 1) (by omega)).trans HKb4.out)
      have HKc5 := hide ((hb1.block (w.heap.size + 2) (by omega)).trans HKc4.out)
      clear hb1 hz1 hs4 HB4 HKa4 HKb4 HKc4
      go_wp2_with (first | (refine wpList_load_g (ty := 25) (x := .tmp 3) rfl rfl w.heap.size 0 rfl 25 #[.int .i64 a.sp, .int .u8 a.m0, .int .u8 a.m1, .int .u8 a.m2, .int .u8 a.m3, .int .u8 a.m4, .int .u8 a.m5, .int .i64 a.key, .int .i64 a.pp, .int .i64 a.port, .int .i64 a.st] (0, 0) _ HKa5.out Try.underlying25 rfl (by kernel_rfl) rfl ?_) | (refine wpList_load_g (ty := 25) (x := .tmp 4) rfl rfl (w.heap.size + 1) 0 rfl 25 #[.int .i64 b.sp, .int .u8 b.m0, .int .u8 b.m1, .int .u8 b.m2, .int .u8 b.m3, .int .u8 b.m4, .int .u8 b.m5, .int .i64 b.key, .int .i64 b.pp, .int .i64 b.port, .int .i64 b.st] (0, 0) _ HKb5.out Try.underlying25 rfl (by kernel_rfl) rfl ?_) | (refine wpList_load_g (ty := 25) (x := .tmp 5) rfl rfl (w.heap.size + 2) 0 rfl 25 #[.int .i64 c.sp, .int .u8 c.m0, .int .u8 c.m1, .int .u8 c.m2, .int .u8 c.m3, .int .u8 c.m4, .int .u8 c.m5, .int .i64 c.key, .int .i64 c.pp, .int .i64 c.port, .int .i64 c.st] (0, 0) _ HKc5.out Try.underlying25 rfl (by kernel_rfl) rfl ?_))
      refine (Haa.out w5).mono ?_
      rintro e w6 ⟨rfl, hb1⟩
      have hz1 := hb1.size
      have hs6 : w.heap.size + 2 < w6.heap.size := by omega
      have HB6 := hide (HB5.out.trans (hb1.mono (by omega)))
      have HKa6 := hide ((hb1.block w.heap.size (by omega)).trans HKa5.out)
      have HKb6 := hide ((hb1.block (w.heap.size + 1) (by omega)).trans HKb5.out)
      have HKc6 := hide ((hb1.block (w.heap.size + 2) (by omega)).trans HKc5.out)
      clear hb1 hz1 hs5 HB5 HKa5 HKb5 HKc5
      go_wp2_with (first | (refine wpList_load_g (ty := 25) (x := .tmp 3) rfl rfl w.heap.size 0 rfl 25 #[.int .i64 a.sp, .int .u8 a.m0, .int .u8 a.m1, .int .u8 a.m2, .int .u8 a.m3, .int .u8 a.m4, .int .u8 a.m5, .int .i64 a.key, .int .i64 a.pp, .int .i64 a.port, .int .i64 a.st] (0, 0) _ HKa6.out Try.underlying25 rfl (by kernel_rfl) rfl ?_) | (refine wpList_load_g (ty := 25) (x := .tmp 4) rfl rfl (w.heap.size + 1) 0 rfl 25 #[.int .i64 b.sp, .int .u8 b.m0, .int .u8 b.m1, .int .u8 b.m2, .int .u8 b.m3, .int .u8 b.m4, .int .u8 b.m5, .int .i64 b.key, .int .i64 b.pp, .int .i64 b.port, .int .i64 b.st] (0, 0) _ HKb6.out Try.underlying25 rfl (by kernel_rfl) rfl ?_) | (refine wpList_load_g (ty := 25) (x := .tmp 5) rfl rfl (w.heap.size + 2) 0 rfl 25 #[.int .i64 c.sp, .int .u8 c.m0, .int .u8 c.m1, .int .u8 c.m2, .int .u8 c.m3, .int .u8 c.m4, .int .u8 c.m5, .int .i64 c.key, .int .i64 c.pp, .int .i64 c.port, .int .i64 c.st] (0, 0) _ HKc6.out Try.underlying25 rfl (by kernel_rfl) rfl ?_))
      refine (Hba.out w6).mono ?_
      rintro e w7 ⟨rfl, hb1⟩
      have hz1 := hb1.size
      have hs7 : w.heap.size + 2 < w7.heap.size := by omega
      have HB7 := hide (HB6.out.trans (hb1.mono (by omega)))
      have HKa7 := hide ((hb1.block w.heap.size (by omega)).trans HKa6.out)
      have HKb7 := hide ((hb1.block (w.heap.size + 1) (by omega)).trans HKb6.out)
      have HKc7 := hide ((hb1.block (w.heap.size + 2) (by omega)).trans HKc6.out)
      clear hb1 hz1 hs6 HB6 HKa6 HKb6 HKc6
      go_wp2_with fail
      go_ret
      exact ⟨rfl, HB7.out⟩
    · cases m
      · obtain rfl := h3 rfl rfl
        clear h1 h2 h3
        go_enter Try.func6, Try.ntmps6
        go_wp2_with fail
        refine (awake_any _).mono ?_
        rintro e w1 ⟨rfl, hb1⟩
        have hz1 := hb1.size
        simp at hz1
        have hs1 : w.heap.size + 2 < w1.heap.size := by omega
        have HB1 := hide (((((Below.refl w.heap.size w).alloc (Nat.le_refl _) (.cells #[.int .i64 a.sp, .int .u8 a.m0, .int .u8 a.m1, .int .u8 a.m2, .int .u8 a.m3, .int .u8 a.m4, .int .u8 a.m5, .int .i64 a.key, .int .i64 a.pp, .int .i64 a.port, .int .i64 a.st] 25)).alloc (by simp) (.cells #[.int .i64 b.sp, .int .u8 b.m0, .int .u8 b.m1, .int .u8 b.m2, .int .u8 b.m3, .int .u8 b.m4, .int .u8 b.m5, .int .i64 b.key, .int .i64 b.pp, .int .i64 b.port, .int .i64 b.st] 25)).alloc (by simp <;> omega) (.cells #[.int .i64 c.sp, .int .u8 c.m0, .int .u8 c.m1, .int .u8 c.m2, .int .u8 c.m3, .int .u8 c.m4, .int .u8 c.m5, .int .i64 c.key, .int .i64 c.pp, .int .i64 c.port, .int .i64 c.st] 25)).trans (hb1.mono (by simp <;> omega)))
        have HKa1 := hide (show w1.heap[w.heap.size]? = some (.cells #[.int .i64 a.sp, .int .u8 a.m0, .int .u8 a.m1, .int .u8 a.m2, .int .u8 a.m3, .int .u8 a.m4, .int .u8 a.m5, .int .i64 a.key, .int .i64 a.pp, .int .i64 a.port, .int .i64 a.st] 25 (0, 0)) from (hb1.block w.heap.size (by simp; omega)).trans HB0.out)
        have HKb1 := hide (show w1.heap[w.heap.size + 1]? = some (.cells #[.int .i64 b.sp, .int .u8 b.m0, .int .u8 b.m1, .int .u8 b.m2, .int .u8 b.m3, .int .u8 b.m4, .int .u8 b.m5, .int .i64 b.key, .int .i64 b.pp, .int .i64 b.port, .int .i64 b.st] 25 (0, 0)) from (hb1.block (w.heap.size + 1) (by simp <;> omega)).trans HB0'.out)
        have HKc1 := hide (show w1.heap[w.heap.size + 2]? = some (.cells #[.int .i64 c.sp, .int .u8 c.m0, .int .u8 c.m1, .int .u8 c.m2, .int .u8 c.m3, .int .u8 c.m4, .int .u8 c.m5, .int .i64 c.key, .int .i64 c.pp, .int .i64 c.port, .int .i64 c.st] 25 (0, 0)) from (hb1.block (w.heap.size + 2) (by simp)).trans HB0''.out)
        clear hb1 hz1
        go_wp2_with (first | (refine wpList_load_g (ty := 25) (x := .tmp 3) rfl rfl w.heap.size 0 rfl 25 #[.int .i64 a.sp, .int .u8 a.m0, .int .u8 a.m1, .int .u8 a.m2, .int .u8 a.m3, .int .u8 a.m4, .int .u8 a.m5, .int .i64 a.key, .int .i64 a.pp, .int .i64 a.port, .int .i64 a.st] (0, 0) _ HKa1.out Try.underlying25 rfl (by kernel_rfl) rfl ?_) | (refine wpList_load_g (ty := 25) (x := .tmp 4) rfl rfl (w.heap.size + 1) 0 rfl 25 #[.int .i64 b.sp, .int .u8 b.m0, .int .u8 b.m1, .int .u8 b.m2, .int .u8 b.m3, .int .u8 b.m4, .int .u8 b.m5, .int .i64 b.key, .int .i64 b.pp, .int .i64 b.port, .int .i64 b.st] (0, 0) _ HKb1.out Try.underlying25 rfl (by kernel_rfl) rfl ?_) | (refine wpList_load_g (ty := 25) (x := .tmp 5) rfl rfl (w.heap.size + 2) 0 rfl 25 #[.int .i64 c.sp, .int .u8 c.m0, .int .u8 c.m1, .int .u8 c.m2, .int .u8 c.m3, .int .u8 c.m4, .int .u8 c.m5, .int .i64 c.key, .int .i64 c.pp, .int .i64 c.port, .int .i64 c.st] (0, 0) _ HKc1.out Try.underlying25 rfl (by kernel_rfl) rfl ?_))
        refine (Hab.out w1).mono ?_
        rintro e w2 ⟨rfl, hb1⟩
        have hz1 := hb1.size
        have hs2 : w.heap.size + 2 < w2.heap.size := by omega
        have HB2 := hide (HB1.out.trans (hb1.mono (by omega)))
        have HKa2 := hide ((hb1.block w.heap.size (by omega)).trans HKa1.out)
        have HKb2 := hide ((hb1.block (w.heap.size + 1) (by omega)).trans HKb1.out)
        have HKc2 := hide ((hb1.block (w.heap.size + 2) (by omega)).trans HKc1.out)
        clear hb1 hz1 hs1 HB1 HKa1 HKb1 HKc1
        go_wp2_with (first | (refine wpList_load_g (ty := 25) (x := .tmp 3) rfl rfl w.heap.size 0 rfl 25 #[.int .i64 a.sp, .int .u8 a.m0, .int .u8 a.m1, .int .u8 a.m2, .int .u8 a.m3, .int .u8 a.m4, .int .u8 a.m5, .int .i64 a.key, .int .i64 a.pp, .int .i64 a.port, .int .i64 a.st] (0, 0) _ HKa2.out Try.underlying25 rfl (by kernel_rfl) rfl ?_) | (refine wpList_load_g (ty := 25) (x := .tmp 4) rfl rfl (w.heap.size + 1) 0 rfl 25 #[.int .i64 b.sp, .int .u8 b.m0, .int .u8 b.m1, .int .u8 b.m2, .int .u8 b.m3, .int .u8 b.m4, .int .u8 b.m5, .int .i64 b.key, .int .i64 b.pp, .int .i64 b.port, .int .i64 b.st] (0, 0) _ HKb2.out Try.underlying25 rfl (by kernel_rfl) rfl ?_) | (refine wpList_load_g (ty := 25) (x := .tmp 5) rfl rfl (w.heap.size + 2) 0 rfl 25 #[.int .i64 c.sp, .int .u8 c.m0, .int .u8 c.m1, .int .u8 c.m2, .int .u8 c.m3, .int .u8 c.m4, .int .u8 c.m5, .int .i64 c.key, .int .i64 c.pp, .int .i64 c.port, .int .i64 c.st] (0, 0) _ HKc2.out Try.underlying25 rfl (by kernel_rfl) rfl ?_))
        refine (Hbc.out w2).mono ?_
        rintro e w3 ⟨rfl, hb1⟩
        have hz1 := hb1.size
        have hs3 : w.heap.size + 2 < w3.heap.size := by omega
        have HB3 := hide (HB2.out.trans (hb1.mono (by omega)))
        have HKa3 := hide ((hb1.block w.heap.size (by omega)).trans HKa2.out)
        have HKb3 := hide ((hb1.block (w.heap.size + 1) (by omega)).trans HKb2.out)
        have HKc3 := hide ((hb1.block (w.heap.size + 2) (by omega)).trans HKc2.out)
        clear hb1 hz1 hs2 HB2 HKa2 HKb2 HKc2
        go_wp2_with (first | (refine wpList_load_g (ty := 25) (x := .tmp 3) rfl rfl w.heap.size 0 rfl 25 #[.int .i64 a.sp, .int .u8 a.m0, .int .u8 a.m1, .int .u8 a.m2, .int .u8 a.m3, .int .u8 a.m4, .int .u8 a.m5, .int .i64 a.key, .int .i64 a.pp, .int .i64 a.port, .int .i64 a.st] (0, 0) _ HKa3.out Try.underlying25 rfl (by kernel_rfl) rfl ?_) | (refine wpList_load_g (ty := 25) (x := .tmp 4) rfl rfl (w.heap.size + 1) 0 rfl 25 #[.int .i64 b.sp, .int .u8 b.m0, .int .u8 b.m1, .int .u8 b.m2, .int .u8 b.m3, .int .u8 b.m4, .int .u8 b.m5, .int .i64 b.key, .int .i64 b.pp, .int .i64 b.port, .int .i64 b.st] (0, 0) _ HKb3.out Try.underlying25 rfl (by kernel_rfl) rfl ?_) | (refine wpList_load_g (ty := 25) (x := .tmp 5) rfl rfl (w.heap.size + 2) 0 rfl 25 #[.int .i64 c.sp, .int .u8 c.m0, .int .u8 c.m1, .int .u8 c.m2, .int .u8 c.m3, .int .u8 c.m4, .int .u8 c.m5, .int .i64 c.key, .int .i64 c.pp, .int .i64 c.port, .int .i64 c.st] (0, 0) _ HKc3.out Try.underlying25 rfl (by kernel_rfl) rfl ?_))
        refine (Hac.out w3).mono ?_
        rintro e w4 ⟨rfl, hb1⟩
        have hz1 := hb1.size
        have hs4 : w.heap.size + 2 < w4.heap.size := by omega
        have HB4 := hide (HB3.out.trans (hb1.mono (by omega)))
        have HKa4 := hide ((hb1.block w.heap.size (by omega)).trans HKa3.out)
        have HKb4 := hide ((hb1.block (w.heap.size + 1) (by omega)).trans HKb3.out)
        have HKc4 := hide ((hb1.block (w.heap.size + 2) (by omega)).trans HKc3.out)
        clear hb1 hz1 hs3 HB3 HKa3 HKb3 HKc3
        have ca : w4.cell? ⟨w.heap.size, 0, none⟩ = some (.int .i64 a.sp) := cell_of_row w4 _ 0 _ 25 (0, 0) HKa4.out
        have cb : w4.cell? ⟨w.heap.size + 1, 0, none⟩ = some (.int .i64 b.sp) := cell_of_row w4 _ 0 _ 25 (0, 0) HKb4.out
        have ca0 : w4.cell? ⟨w.heap.size, 1, none⟩ = some (.int .u8 a.m0) := cell_of_row w4 _ 1 _ 25 (0, 0) HKa4.out
        have ca1 : w4.cell? ⟨w.heap.size, 2, none⟩ = some (.int .u8 a.m1) := cell_of_row w4 _ 2 _ 25 (0, 0) HKa4.out
        have ca2 : w4.cell? ⟨w.heap.size, 3, none⟩ = some (.int .u8 a.m2) := cell_of_row w4 _ 3 _ 25 (0, 0) HKa4.out
        have ca3 : w4.cell? ⟨w.heap.size, 4, none⟩ = some (.int .u8 a.m3) := cell_of_row w4 _ 4 _ 25 (0, 0) HKa4.out
        have ca4 : w4.cell? ⟨w.heap.size, 5, none⟩ = some (.int .u8 a.m4) := cell_of_row w4 _ 5 _ 25 (0, 0) HKa4.out
        have ca5 : w4.cell? ⟨w.heap.size, 6, none⟩ = some (.int .u8 a.m5) := cell_of_row w4 _ 6 _ 25 (0, 0) HKa4.out
        have cb0 : w4.cell? ⟨w.heap.size + 1, 1, none⟩ = some (.int .u8 b.m0) := cell_of_row w4 _ 1 _ 25 (0, 0) HKb4.out
        have cb1 : w4.cell? ⟨w.heap.size + 1, 2, none⟩ = some (.int .u8 b.m1) := cell_of_row w4 _ 2 _ 25 (0, 0) HKb4.out
        have cb2 : w4.cell? ⟨w.heap.size + 1, 3, none⟩ = some (.int .u8 b.m2) := cell_of_row w4 _ 3 _ 25 (0, 0) HKb4.out
        have cb3 : w4.cell? ⟨w.heap.size + 1, 4, none⟩ = some (.int .u8 b.m3) := cell_of_row w4 _ 4 _ 25 (0, 0) HKb4.out
        have cb4 : w4.cell? ⟨w.heap.size + 1, 5, none⟩ = some (.int .u8 b.m4) := cell_of_row w4 _ 5 _ 25 (0, 0) HKb4.out
        have cb5 : w4.cell? ⟨w.heap.size + 1, 6, none⟩ = some (.int .u8 b.m5) := cell_of_row w4 _ 6 _ 25 (0, 0) HKb4.out
        go_wp2_with (first | (refine wpList_load_g (ty := 25) (x := .tmp 3) rfl rfl w.heap.size 0 rfl 25 #[.int .i64 a.sp, .int .u8 a.m0, .int .u8 a.m1, .int .u8 a.m2, .int .u8 a.m3, .int .u8 a.m4, .int .u8 a.m5, .int .i64 a.key, .int .i64 a.pp, .int .i64 a.port, .int .i64 a.st] (0, 0) _ HKa4.out Try.underlying25 rfl (by kernel_rfl) rfl ?_) | (refine wpList_load_g (ty := 25) (x := .tmp 4) rfl rfl (w.heap.size + 1) 0 rfl 25 #[.int .i64 b.sp, .int .u8 b.m0, .int .u8 b.m1, .int .u8 b.m2, .int .u8 b.m3, .int .u8 b.m4, .int .u8 b.m5, .int .i64 b.key, .int .i64 b.pp, .int .i64 b.port, .int .i64 b.st] (0, 0) _ HKb4.out Try.underlying25 rfl (by kernel_rfl) rfl ?_) | (refine wpList_load_g (ty := 25) (x := .tmp 5) rfl rfl (w.heap.size + 2) 0 rfl 25 #[.int .i64 c.sp, .int .u8 c.m0, .int .u8 c.m1, .int .u8 c.m2, .int .u8 c.m3, .int .u8 c.m4, .int .u8 c.m5, .int .i64 c.key, .int .i64 c.pp, .int .i64 c.port, .int .i64 c.st] (0, 0) _ HKc4.out Try.underlying25 rfl (by kernel_rfl) rfl ?_))
        refine (Hkk.out w4).mono ?_
        rintro e w5 ⟨rfl, hb1⟩
        have hz1 := hb1.size
        have hs5 : w.heap.size + 2 < w5.heap.size := by omega
        have HB5 := hide (HB4.out.trans (hb1.mono (by omega)))
        have HKa5 := hide ((hb1.block w.heap.size (by omega)).trans HKa4.out)
        have HKb5 := hide ((hb1.block (w.heap.size + 1) (by omega)).trans HKb4.out)
        have HKc5 := hide ((hb1.block (w.heap.size + 2) (by omega)).trans HKc4.out)
        clear hb1 hz1 hs4 HB4 HKa4 HKb4 HKc4
        go_wp2_with (first | (refine wpList_load_g (ty := 25) (x := .tmp 3) rfl rfl w.heap.size 0 rfl 25 #[.int .i64 a.sp, .int .u8 a.m0, .int .u8 a.m1, .int .u8 a.m2, .int .u8 a.m3, .int .u8 a.m4, .int .u8 a.m5, .int .i64 a.key, .int .i64 a.pp, .int .i64 a.port, .int .i64 a.st] (0, 0) _ HKa5.out Try.underlying25 rfl (by kernel_rfl) rfl ?_) | (refine wpList_load_g (ty := 25) (x := .tmp 4) rfl rfl (w.heap.size + 1) 0 rfl 25 #[.int .i64 b.sp, .int .u8 b.m0, .int .u8 b.m1, .int .u8 b.m2, .int .u8 b.m3, .int .u8 b.m4, .int .u8 b.m5, .int .i64 b.key, .int .i64 b.pp, .int .i64 b.port, .int .i64 b.st] (0, 0) _ HKb5.out Try.underlying25 rfl (by kernel_rfl) rfl ?_) | (refine wpList_load_g (ty := 25) (x := .tmp 5) rfl rfl (w.heap.size + 2) 0 rfl 25 #[.int .i64 c.sp, .int .u8 c.m0, .int .u8 c.m1, .int .u8 c.m2, .int .u8 c.m3, .int .u8 c.m4, .int .u8 c.m5, .int .i64 c.key, .int .i64 c.pp, .int .i64 c.port, .int .i64 c.st] (0, 0) _ HKc5.out Try.underlying25 rfl (by kernel_rfl) rfl ?_))
        refine (Haa.out w5).mono ?_
        rintro e w6 ⟨rfl, hb1⟩
        have hz1 := hb1.size
        have hs6 : w.heap.size + 2 < w6.heap.size := by omega
        have HB6 := hide (HB5.out.trans (hb1.mono (by omega)))
        have HKa6 := hide ((hb1.block w.heap.size (by omega)).trans HKa5.out)
        have HKb6 := hide ((hb1.block (w.heap.size + 1) (by omega)).trans HKb5.out)
        have HKc6 := hide ((hb1.block (w.heap.size + 2) (by omega)).trans HKc5.out)
        clear hb1 hz1 hs5 HB5 HKa5 HKb5 HKc5
        go_wp2_with (first | (refine wpList_load_g (ty := 25) (x := .tmp 3) rfl rfl w.heap.size 0 rfl 25 #[.int .i64 a.sp, .int .u8 a.m0, .int .u8 a.m1, .int .u8 a.m2, .int .u8 a.m3, .int .u8 a.m4, .int .u8 a.m5, .int .i64 a.key, .int .i64 a.pp, .int .i64 a.port, .int .i64 a.st] (0, 0) _ HKa6.out Try.underlying25 rfl (by kernel_rfl) rfl ?_) | (refine wpList_load_g (ty := 25) (x := .tmp 4) rfl rfl (w.heap.size + 1) 0 rfl 25 #[.int .i64 b.sp, .int .u8 b.m0, .int .u8 b.m1, .int .u8 b.m2, .int .u8 b.m3, .int .u8 b.m4, .int .u8 b.m5, .int .i64 b.key, .int .i64 b.pp, .int .i64 b.port, .int .i64 b.st] (0, 0) _ HKb6.out Try.underlying25 rfl (by kernel_rfl) rfl ?_) | (refine wpList_load_g (ty := 25) (x := .tmp 5) rfl rfl (w.heap.size + 2) 0 rfl 25 #[.int .i64 c.sp, .int .u8 c.m0, .int .u8 c.m1, .int .u8 c.m2, .int .u8 c.m3, .int .u8 c.m4, .int .u8 c.m5, .int .i64 c.key, .int .i64 c.pp, .int .i64 c.port, .int .i64 c.st] (0, 0) _ HKc6.out Try.underlying25 rfl (by kernel_rfl) rfl ?_))
        refine (Hba.out w6).mono ?_
        rintro e w7 ⟨rfl, hb1⟩
        have hz1 := hb1.size
        have hs7 : w.heap.size + 2 < w7.heap.size := by omega
        have HB7 := hide (HB6.out.trans (hb1.mono (by omega)))
        have HKa7 := hide ((hb1.block w.heap.size (by omega)).trans HKa6.out)
        have HKb7 := hide ((hb1.block (w.heap.size + 1) (by omega)).trans HKb6.out)
        have HKc7 := hide ((hb1.block (w.heap.size + 2) (by omega)).trans HKc6.out)
        clear hb1 hz1 hs6 HB6 HKa6 HKb6 HKc6
        go_wp2_with fail
        go_ret
        exact ⟨rfl, HB7.out⟩
      · clear h1 h2 h3
        go_enter Try.func6, Try.ntmps6
        go_wp2_with fail
        refine (awake_any _).mono ?_
        rintro e w1 ⟨rfl, hb1⟩
        have hz1 := hb1.size
        simp at hz1
        have hs1 : w.heap.size + 2 < w1.heap.size := by omega
        have HB1 := hide (((((Below.refl w.heap.size w).alloc (Nat.le_refl _) (.cells #[.int .i64 a.sp, .int .u8 a.m0, .int .u8 a.m1, .int .u8 a.m2, .int .u8 a.m3, .int .u8 a.m4, .int .u8 a.m5, .int .i64 a.key, .int .i64 a.pp, .int .i64 a.port, .int .i64 a.st] 25)).alloc (by simp) (.cells #[.int .i64 b.sp, .int .u8 b.m0, .int .u8 b.m1, .int .u8 b.m2, .int .u8 b.m3, .int .u8 b.m4, .int .u8 b.m5, .int .i64 b.key, .int .i64 b.pp, .int .i64 b.port, .int .i64 b.st] 25)).alloc (by simp <;> omega) (.cells #[.int .i64 c.sp, .int .u8 c.m0, .int .u8 c.m1, .int .u8 c.m2, .int .u8 c.m3, .int .u8 c.m4, .int .u8 c.m5, .int .i64 c.key, .int .i64 c.pp, .int .i64 c.port, .int .i64 c.st] 25)).trans (hb1.mono (by simp <;> omega)))
        have HKa1 := hide (show w1.heap[w.heap.size]? = some (.cells #[.int .i64 a.sp, .int .u8 a.m0, .int .u8 a.m1, .int .u8 a.m2, .int .u8 a.m3, .int .u8 a.m4, .int .u8 a.m5, .int .i64 a.key, .int .i64 a.pp, .int .i64 a.port, .int .i64 a.st] 25 (0, 0)) from (hb1.block w.heap.size (by simp; omega)).trans HB0.out)
        have HKb1 := hide (show w1.heap[w.heap.size + 1]? = some (.cells #[.int .i64 b.sp, .int .u8 b.m0, .int .u8 b.m1, .int .u8 b.m2, .int .u8 b.m3, .int .u8 b.m4, .int .u8 b.m5, .int .i64 b.key, .int .i64 b.pp, .int .i64 b.port, .int .i64 b.st] 25 (0, 0)) from (hb1.block (w.heap.size + 1) (by simp <;> omega)).trans HB0'.out)
        have HKc1 := hide (show w1.heap[w.heap.size + 2]? = some (.cells #[.int .i64 c.sp, .int .u8 c.m0, .int .u8 c.m1, .int .u8 c.m2, .int .u8 c.m3, .int .u8 c.m4, .int .u8 c.m5, .int .i64 c.key, .int .i64 c.pp, .int .i64 c.port, .int .i64 c.st] 25 (0, 0)) from (hb1.block (w.heap.size + 2) (by simp)).trans HB0''.out)
        clear hb1 hz1
        go_wp2_with (first | (refine wpList_load_g (ty := 25) (x := .tmp 3) rfl rfl w.heap.size 0 rfl 25 #[.int .i64 a.sp, .int .u8 a.m0, .int .u8 a.m1, .int .u8 a.m2, .int .u8 a.m3, .int .u8 a.m4, .int .u8 a.m5, .int .i64 a.key, .int .i64 a.pp, .int .i64 a.port, .int .i64 a.st] (0, 0) _ HKa1.out Try.underlying25 rfl (by kernel_rfl) rfl ?_) | (refine wpList_load_g (ty := 25) (x := .tmp 4) rfl rfl (w.heap.size + 1) 0 rfl 25 #[.int .i64 b.sp, .int .u8 b.m0, .int .u8 b.m1, .int .u8 b.m2, .int .u8 b.m3, .int .u8 b.m4, .int .u8 b.m5, .int .i64 b.key, .int .i64 b.pp, .int .i64 b.port, .int .i64 b.st] (0, 0) _ HKb1.out Try.underlying25 rfl (by kernel_rfl) rfl ?_) | (refine wpList_load_g (ty := 25) (x := .tmp 5) rfl rfl (w.heap.size + 2) 0 rfl 25 #[.int .i64 c.sp, .int .u8 c.m0, .int .u8 c.m1, .int .u8 c.m2, .int .u8 c.m3, .int .u8 c.m4, .int .u8 c.m5, .int .i64 c.key, .int .i64 c.pp, .int .i64 c.port, .int .i64 c.st] (0, 0) _ HKc1.out Try.underlying25 rfl (by kernel_rfl) rfl ?_))
        refine (Hab.out w1).mono ?_
        rintro e w2 ⟨rfl, hb1⟩
        have hz1 := hb1.size
        have hs2 : w.heap.size + 2 < w2.heap.size := by omega
        have HB2 := hide (HB1.out.trans (hb1.mono (by omega)))
        have HKa2 := hide ((hb1.block w.heap.size (by omega)).trans HKa1.out)
        have HKb2 := hide ((hb1.block (w.heap.size + 1) (by omega)).trans HKb1.out)
        have HKc2 := hide ((hb1.block (w.heap.size + 2) (by omega)).trans HKc1.out)
        clear hb1 hz1 hs1 HB1 HKa1 HKb1 HKc1
        go_wp2_with (first | (refine wpList_load_g (ty := 25) (x := .tmp 3) rfl rfl w.heap.size 0 rfl 25 #[.int .i64 a.sp, .int .u8 a.m0, .int .u8 a.m1, .int .u8 a.m2, .int .u8 a.m3, .int .u8 a.m4, .int .u8 a.m5, .int .i64 a.key, .int .i64 a.pp, .int .i64 a.port, .int .i64 a.st] (0, 0) _ HKa2.out Try.underlying25 rfl (by kernel_rfl) rfl ?_) | (refine wpList_load_g (ty := 25) (x := .tmp 4) rfl rfl (w.heap.size + 1) 0 rfl 25 #[.int .i64 b.sp, .int .u8 b.m0, .int .u8 b.m1, .int .u8 b.m2, .int .u8 b.m3, .int .u8 b.m4, .int .u8 b.m5, .int .i64 b.key, .int .i64 b.pp, .int .i64 b.port, .int .i64 b.st] (0, 0) _ HKb2.out Try.underlying25 rfl (by kernel_rfl) rfl ?_) | (refine wpList_load_g (ty := 25) (x := .tmp 5) rfl rfl (w.heap.size + 2) 0 rfl 25 #[.int .i64 c.sp, .int .u8 c.m0, .int .u8 c.m1, .int .u8 c.m2, .int .u8 c.m3, .int .u8 c.m4, .int .u8 c.m5, .int .i64 c.key, .int .i64 c.pp, .int .i64 c.port, .int .i64 c.st] (0, 0) _ HKc2.out Try.underlying25 rfl (by kernel_rfl) rfl ?_))
        refine (Hbc.out w2).mono ?_
        rintro e w3 ⟨rfl, hb1⟩
        have hz1 := hb1.size
        have hs3 : w.heap.size + 2 < w3.heap.size := by omega
        have HB3 := hide (HB2.out.trans (hb1.mono (by omega)))
        have HKa3 := hide ((hb1.block w.heap.size (by omega)).trans HKa2.out)
        have HKb3 := hide ((hb1.block (w.heap.size + 1) (by omega)).trans HKb2.out)
        have HKc3 := hide ((hb1.block (w.heap.size + 2) (by omega)).trans HKc2.out)
        clear hb1 hz1 hs2 HB2 HKa2 HKb2 HKc2
        go_wp2_with (first | (refine wpList_load_g (ty := 25) (x := .tmp 3) rfl rfl w.heap.size 0 rfl 25 #[.int .i64 a.sp, .int .u8 a.m0, .int .u8 a.m1, .int .u8 a.m2, .int .u8 a.m3, .int .u8 a.m4, .int .u8 a.m5, .int .i64 a.key, .int .i64 a.pp, .int .i64 a.port, .int .i64 a.st] (0, 0) _ HKa3.out Try.underlying25 rfl (by kernel_rfl) rfl ?_) | (refine wpList_load_g (ty := 25) (x := .tmp 4) rfl rfl (w.heap.size + 1) 0 rfl 25 #[.int .i64 b.sp, .int .u8 b.m0, .int .u8 b.m1, .int .u8 b.m2, .int .u8 b.m3, .int .u8 b.m4, .int .u8 b.m5, .int .i64 b.key, .int .i64 b.pp, .int .i64 b.port, .int .i64 b.st] (0, 0) _ HKb3.out Try.underlying25 rfl (by kernel_rfl) rfl ?_) | (refine wpList_load_g (ty := 25) (x := .tmp 5) rfl rfl (w.heap.size + 2) 0 rfl 25 #[.int .i64 c.sp, .int .u8 c.m0, .int .u8 c.m1, .int .u8 c.m2, .int .u8 c.m3, .int .u8 c.m4, .int .u8 c.m5, .int .i64 c.key, .int .i64 c.pp, .int .i64 c.port, .int .i64 c.st] (0, 0) _ HKc3.out Try.underlying25 rfl (by kernel_rfl) rfl ?_))
        refine (Hac.out w3).mono ?_
        rintro e w4 ⟨rfl, hb1⟩
        have hz1 := hb1.size
        have hs4 : w.heap.size + 2 < w4.heap.size := by omega
        have HB4 := hide (HB3.out.trans (hb1.mono (by omega)))
        have HKa4 := hide ((hb1.block w.heap.size (by omega)).trans HKa3.out)
        have HKb4 := hide ((hb1.block (w.heap.size + 1) (by omega)).trans HKb3.out)
        have HKc4 := hide ((hb1.block (w.heap.size + 2) (by omega)).trans HKc3.out)
        clear hb1 hz1 hs3 HB3 HKa3 HKb3 HKc3
        have ca : w4.cell? ⟨w.heap.size, 0, none⟩ = some (.int .i64 a.sp) := cell_of_row w4 _ 0 _ 25 (0, 0) HKa4.out
        have cb : w4.cell? ⟨w.heap.size + 1, 0, none⟩ = some (.int .i64 b.sp) := cell_of_row w4 _ 0 _ 25 (0, 0) HKb4.out
        have ca0 : w4.cell? ⟨w.heap.size, 1, none⟩ = some (.int .u8 a.m0) := cell_of_row w4 _ 1 _ 25 (0, 0) HKa4.out
        have ca1 : w4.cell? ⟨w.heap.size, 2, none⟩ = some (.int .u8 a.m1) := cell_of_row w4 _ 2 _ 25 (0, 0) HKa4.out
        have ca2 : w4.cell? ⟨w.heap.size, 3, none⟩ = some (.int .u8 a.m2) := cell_of_row w4 _ 3 _ 25 (0, 0) HKa4.out
        have ca3 : w4.cell? ⟨w.heap.size, 4, none⟩ = some (.int .u8 a.m3) := cell_of_row w4 _ 4 _ 25 (0, 0) HKa4.out
        have ca4 : w4.cell? ⟨w.heap.size, 5, none⟩ = some (.int .u8 a.m4) := cell_of_row w4 _ 5 _ 25 (0, 0) HKa4.out
        have ca5 : w4.cell? ⟨w.heap.size, 6, none⟩ = some (.int .u8 a.m5) := cell_of_row w4 _ 6 _ 25 (0, 0) HKa4.out
        have cb0 : w4.cell? ⟨w.heap.size + 1, 1, none⟩ = some (.int .u8 b.m0) := cell_of_row w4 _ 1 _ 25 (0, 0) HKb4.out
        have cb1 : w4.cell? ⟨w.heap.size + 1, 2, none⟩ = some (.int .u8 b.m1) := cell_of_row w4 _ 2 _ 25 (0, 0) HKb4.out
        have cb2 : w4.cell? ⟨w.heap.size + 1, 3, none⟩ = some (.int .u8 b.m2) := cell_of_row w4 _ 3 _ 25 (0, 0) HKb4.out
        have cb3 : w4.cell? ⟨w.heap.size + 1, 4, none⟩ = some (.int .u8 b.m3) := cell_of_row w4 _ 4 _ 25 (0, 0) HKb4.out
        have cb4 : w4.cell? ⟨w.heap.size + 1, 5, none⟩ = some (.int .u8 b.m4) := cell_of_row w4 _ 5 _ 25 (0, 0) HKb4.out
        have cb5 : w4.cell? ⟨w.heap.size + 1, 6, none⟩ = some (.int .u8 b.m5) := cell_of_row w4 _ 6 _ 25 (0, 0) HKb4.out
        go_wp2_with (first | (refine wpList_load_g (ty := 25) (x := .tmp 3) rfl rfl w.heap.size 0 rfl 25 #[.int .i64 a.sp, .int .u8 a.m0, .int .u8 a.m1, .int .u8 a.m2, .int .u8 a.m3, .int .u8 a.m4, .int .u8 a.m5, .int .i64 a.key, .int .i64 a.pp, .int .i64 a.port, .int .i64 a.st] (0, 0) _ HKa4.out Try.underlying25 rfl (by kernel_rfl) rfl ?_) | (refine wpList_load_g (ty := 25) (x := .tmp 4) rfl rfl (w.heap.size + 1) 0 rfl 25 #[.int .i64 b.sp, .int .u8 b.m0, .int .u8 b.m1, .int .u8 b.m2, .int .u8 b.m3, .int .u8 b.m4, .int .u8 b.m5, .int .i64 b.key, .int .i64 b.pp, .int .i64 b.port, .int .i64 b.st] (0, 0) _ HKb4.out Try.underlying25 rfl (by kernel_rfl) rfl ?_) | (refine wpList_load_g (ty := 25) (x := .tmp 5) rfl rfl (w.heap.size + 2) 0 rfl 25 #[.int .i64 c.sp, .int .u8 c.m0, .int .u8 c.m1, .int .u8 c.m2, .int .u8 c.m3, .int .u8 c.m4, .int .u8 c.m5, .int .i64 c.key, .int .i64 c.pp, .int .i64 c.port, .int .i64 c.st] (0, 0) _ HKc4.out Try.underlying25 rfl (by kernel_rfl) rfl ?_))
        refine (Hkk.out w4).mono ?_
        rintro e w5 ⟨rfl, hb1⟩
        have hz1 := hb1.size
        have hs5 : w.heap.size + 2 < w5.heap.size := by omega
        have HB5 := hide (HB4.out.trans (hb1.mono (by omega)))
        have HKa5 := hide ((hb1.block w.heap.size (by omega)).trans HKa4.out)
        have HKb5 := hide ((hb1.block (w.heap.size + 1) (by omega)).trans HKb4.out)
        have HKc5 := hide ((hb1.block (w.heap.size + 2) (by omega)).trans HKc4.out)
        clear hb1 hz1 hs4 HB4 HKa4 HKb4 HKc4
        go_wp2_with (first | (refine wpList_load_g (ty := 25) (x := .tmp 3) rfl rfl w.heap.size 0 rfl 25 #[.int .i64 a.sp, .int .u8 a.m0, .int .u8 a.m1, .int .u8 a.m2, .int .u8 a.m3, .int .u8 a.m4, .int .u8 a.m5, .int .i64 a.key, .int .i64 a.pp, .int .i64 a.port, .int .i64 a.st] (0, 0) _ HKa5.out Try.underlying25 rfl (by kernel_rfl) rfl ?_) | (refine wpList_load_g (ty := 25) (x := .tmp 4) rfl rfl (w.heap.size + 1) 0 rfl 25 #[.int .i64 b.sp, .int .u8 b.m0, .int .u8 b.m1, .int .u8 b.m2, .int .u8 b.m3, .int .u8 b.m4, .int .u8 b.m5, .int .i64 b.key, .int .i64 b.pp, .int .i64 b.port, .int .i64 b.st] (0, 0) _ HKb5.out Try.underlying25 rfl (by kernel_rfl) rfl ?_) | (refine wpList_load_g (ty := 25) (x := .tmp 5) rfl rfl (w.heap.size + 2) 0 rfl 25 #[.int .i64 c.sp, .int .u8 c.m0, .int .u8 c.m1, .int .u8 c.m2, .int .u8 c.m3, .int .u8 c.m4, .int .u8 c.m5, .int .i64 c.key, .int .i64 c.pp, .int .i64 c.port, .int .i64 c.st] (0, 0) _ HKc5.out Try.underlying25 rfl (by kernel_rfl) rfl ?_))
        refine (Haa.out w5).mono ?_
        rintro e w6 ⟨rfl, hb1⟩
        have hz1 := hb1.size
        have hs6 : w.heap.size + 2 < w6.heap.size := by omega
        have HB6 := hide (HB5.out.trans (hb1.mono (by omega)))
        have HKa6 := hide ((hb1.block w.heap.size (by omega)).trans HKa5.out)
        have HKb6 := hide ((hb1.block (w.heap.size + 1) (by omega)).trans HKb5.out)
        have HKc6 := hide ((hb1.block (w.heap.size + 2) (by omega)).trans HKc5.out)
        clear hb1 hz1 hs5 HB5 HKa5 HKb5 HKc5
        go_wp2_with fail
        go_ret
        exact ⟨rfl, HB6.out⟩
  · obtain rfl := h1 rfl
    cases bc
    · clear h1 h2 h3
      cases b0
      all_goals
        go_enter Try.func6, Try.ntmps6
        go_wp2_with fail
        refine (awake_any _).mono ?_
        rintro e w1 ⟨rfl, hb1⟩
        have hz1 := hb1.size
        simp at hz1
        have hs1 : w.heap.size + 2 < w1.heap.size := by omega
        have HB1 := hide (((((Below.refl w.heap.size w).alloc (Nat.le_refl _) (.cells #[.int .i64 a.sp, .int .u8 a.m0, .int .u8 a.m1, .int .u8 a.m2, .int .u8 a.m3, .int .u8 a.m4, .int .u8 a.m5, .int .i64 a.key, .int .i64 a.pp, .int .i64 a.port, .int .i64 a.st] 25)).alloc (by simp) (.cells #[.int .i64 b.sp, .int .u8 b.m0, .int .u8 b.m1, .int .u8 b.m2, .int .u8 b.m3, .int .u8 b.m4, .int .u8 b.m5, .int .i64 b.key, .int .i64 b.pp, .int .i64 b.port, .int .i64 b.st] 25)).alloc (by simp <;> omega) (.cells #[.int .i64 c.sp, .int .u8 c.m0, .int .u8 c.m1, .int .u8 c.m2, .int .u8 c.m3, .int .u8 c.m4, .int .u8 c.m5, .int .i64 c.key, .int .i64 c.pp, .int .i64 c.port, .int .i64 c.st] 25)).trans (hb1.mono (by simp <;> omega)))
        have HKa1 := hide (show w1.heap[w.heap.size]? = some (.cells #[.int .i64 a.sp, .int .u8 a.m0, .int .u8 a.m1, .int .u8 a.m2, .int .u8 a.m3, .int .u8 a.m4, .int .u8 a.m5, .int .i64 a.key, .int .i64 a.pp, .int .i64 a.port, .int .i64 a.st] 25 (0, 0)) from (hb1.block w.heap.size (by simp; omega)).trans HB0.out)
        have HKb1 := hide (show w1.heap[w.heap.size + 1]? = some (.cells #[.int .i64 b.sp, .int .u8 b.m0, .int .u8 b.m1, .int .u8 b.m2, .int .u8 b.m3, .int .u8 b.m4, .int .u8 b.m5, .int .i64 b.key, .int .i64 b.pp, .int .i64 b.port, .int .i64 b.st] 25 (0, 0)) from (hb1.block (w.heap.size + 1) (by simp <;> omega)).trans HB0'.out)
        have HKc1 := hide (show w1.heap[w.heap.size + 2]? = some (.cells #[.int .i64 c.sp, .int .u8 c.m0, .int .u8 c.m1, .int .u8 c.m2, .int .u8 c.m3, .int .u8 c.m4, .int .u8 c.m5, .int .i64 c.key, .int .i64 c.pp, .int .i64 c.port, .int .i64 c.st] 25 (0, 0)) from (hb1.block (w.heap.size + 2) (by simp)).trans HB0''.out)
        clear hb1 hz1
        go_wp2_with (first | (refine wpList_load_g (ty := 25) (x := .tmp 3) rfl rfl w.heap.size 0 rfl 25 #[.int .i64 a.sp, .int .u8 a.m0, .int .u8 a.m1, .int .u8 a.m2, .int .u8 a.m3, .int .u8 a.m4, .int .u8 a.m5, .int .i64 a.key, .int .i64 a.pp, .int .i64 a.port, .int .i64 a.st] (0, 0) _ HKa1.out Try.underlying25 rfl (by kernel_rfl) rfl ?_) | (refine wpList_load_g (ty := 25) (x := .tmp 4) rfl rfl (w.heap.size + 1) 0 rfl 25 #[.int .i64 b.sp, .int .u8 b.m0, .int .u8 b.m1, .int .u8 b.m2, .int .u8 b.m3, .int .u8 b.m4, .int .u8 b.m5, .int .i64 b.key, .int .i64 b.pp, .int .i64 b.port, .int .i64 b.st] (0, 0) _ HKb1.out Try.underlying25 rfl (by kernel_rfl) rfl ?_) | (refine wpList_load_g (ty := 25) (x := .tmp 5) rfl rfl (w.heap.size + 2) 0 rfl 25 #[.int .i64 c.sp, .int .u8 c.m0, .int .u8 c.m1, .int .u8 c.m2, .int .u8 c.m3, .int .u8 c.m4, .int .u8 c.m5, .int .i64 c.key, .int .i64 c.pp, .int .i64 c.port, .int .i64 c.st] (0, 0) _ HKc1.out Try.underlying25 rfl (by kernel_rfl) rfl ?_))
        refine (Hab.out w1).mono ?_
        rintro e w2 ⟨rfl, hb1⟩
        have hz1 := hb1.size
        have hs2 : w.heap.size + 2 < w2.heap.size := by omega
        have HB2 := hide (HB1.out.trans (hb1.mono (by omega)))
        have HKa2 := hide ((hb1.block w.heap.size (by omega)).trans HKa1.out)
        have HKb2 := hide ((hb1.block (w.heap.size + 1) (by omega)).trans HKb1.out)
        have HKc2 := hide ((hb1.block (w.heap.size + 2) (by omega)).trans HKc1.out)
        clear hb1 hz1 hs1 HB1 HKa1 HKb1 HKc1
        go_wp2_with (first | (refine wpList_load_g (ty := 25) (x := .tmp 3) rfl rfl w.heap.size 0 rfl 25 #[.int .i64 a.sp, .int .u8 a.m0, .int .u8 a.m1, .int .u8 a.m2, .int .u8 a.m3, .int .u8 a.m4, .int .u8 a.m5, .int .i64 a.key, .int .i64 a.pp, .int .i64 a.port, .int .i64 a.st] (0, 0) _ HKa2.out Try.underlying25 rfl (by kernel_rfl) rfl ?_) | (refine wpList_load_g (ty := 25) (x := .tmp 4) rfl rfl (w.heap.size + 1) 0 rfl 25 #[.int .i64 b.sp, .int .u8 b.m0, .int .u8 b.m1, .int .u8 b.m2, .int .u8 b.m3, .int .u8 b.m4, .int .u8 b.m5, .int .i64 b.key, .int .i64 b.pp, .int .i64 b.port, .int .i64 b.st] (0, 0) _ HKb2.out Try.underlying25 rfl (by kernel_rfl) rfl ?_) | (refine wpList_load_g (ty := 25) (x := .tmp 5) rfl rfl (w.heap.size + 2) 0 rfl 25 #[.int .i64 c.sp, .int .u8 c.m0, .int .u8 c.m1, .int .u8 c.m2, .int .u8 c.m3, .int .u8 c.m4, .int .u8 c.m5, .int .i64 c.key, .int .i64 c.pp, .int .i64 c.port, .int .i64 c.st] (0, 0) _ HKc2.out Try.underlying25 rfl (by kernel_rfl) rfl ?_))
        refine (Hbc.out w2).mono ?_
        rintro e w3 ⟨rfl, hb1⟩
        have hz1 := hb1.size
        have hs3 : w.heap.size + 2 < w3.heap.size := by omega
        have HB3 := hide (HB2.out.trans (hb1.mono (by omega)))
        have HKa3 := hide ((hb1.block w.heap.size (by omega)).trans HKa2.out)
        have HKb3 := hide ((hb1.block (w.heap.size + 1) (by omega)).trans HKb2.out)
        have HKc3 := hide ((hb1.block (w.heap.size + 2) (by omega)).trans HKc2.out)
        clear hb1 hz1 hs2 HB2 HKa2 HKb2 HKc2
        go_wp2_with (first | (refine wpList_load_g (ty := 25) (x := .tmp 3) rfl rfl w.heap.size 0 rfl 25 #[.int .i64 a.sp, .int .u8 a.m0, .int .u8 a.m1, .int .u8 a.m2, .int .u8 a.m3, .int .u8 a.m4, .int .u8 a.m5, .int .i64 a.key, .int .i64 a.pp, .int .i64 a.port, .int .i64 a.st] (0, 0) _ HKa3.out Try.underlying25 rfl (by kernel_rfl) rfl ?_) | (refine wpList_load_g (ty := 25) (x := .tmp 4) rfl rfl (w.heap.size + 1) 0 rfl 25 #[.int .i64 b.sp, .int .u8 b.m0, .int .u8 b.m1, .int .u8 b.m2, .int .u8 b.m3, .int .u8 b.m4, .int .u8 b.m5, .int .i64 b.key, .int .i64 b.pp, .int .i64 b.port, .int .i64 b.st] (0, 0) _ HKb3.out Try.underlying25 rfl (by kernel_rfl) rfl ?_) | (refine wpList_load_g (ty := 25) (x := .tmp 5) rfl rfl (w.heap.size + 2) 0 rfl 25 #[.int .i64 c.sp, .int .u8 c.m0, .int .u8 c.m1, .int .u8 c.m2, .int .u8 c.m3, .int .u8 c.m4, .int .u8 c.m5, .int .i64 c.key, .int .i64 c.pp, .int .i64 c.port, .int .i64 c.st] (0, 0) _ HKc3.out Try.underlying25 rfl (by kernel_rfl) rfl ?_))
        refine (Hac.out w3).mono ?_
        rintro e w4 ⟨rfl, hb1⟩
        have hz1 := hb1.size
        have hs4 : w.heap.size + 2 < w4.heap.size := by omega
        have HB4 := hide (HB3.out.trans (hb1.mono (by omega)))
        have HKa4 := hide ((hb1.block w.heap.size (by omega)).trans HKa3.out)
        have HKb4 := hide ((hb1.block (w.heap.size + 1) (by omega)).trans HKb3.out)
        have HKc4 := hide ((hb1.block (w.heap.size + 2) (by omega)).trans HKc3.out)
        clear hb1 hz1 hs3 HB3 HKa3 HKb3 HKc3
        have ca : w4.cell? ⟨w.heap.size, 0, none⟩ = some (.int .i64 a.sp) := cell_of_row w4 _ 0 _ 25 (0, 0) HKa4.out
        have cb : w4.cell? ⟨w.heap.size + 1, 0, none⟩ = some (.int .i64 b.sp) := cell_of_row w4 _ 0 _ 25 (0, 0) HKb4.out
        have ca0 : w4.cell? ⟨w.heap.size, 1, none⟩ = some (.int .u8 a.m0) := cell_of_row w4 _ 1 _ 25 (0, 0) HKa4.out
        have ca1 : w4.cell? ⟨w.heap.size, 2, none⟩ = some (.int .u8 a.m1) := cell_of_row w4 _ 2 _ 25 (0, 0) HKa4.out
        have ca2 : w4.cell? ⟨w.heap.size, 3, none⟩ = some (.int .u8 a.m2) := cell_of_row w4 _ 3 _ 25 (0, 0) HKa4.out
        have ca3 : w4.cell? ⟨w.heap.size, 4, none⟩ = some (.int .u8 a.m3) := cell_of_row w4 _ 4 _ 25 (0, 0) HKa4.out
        have ca4 : w4.cell? ⟨w.heap.size, 5, none⟩ = some (.int .u8 a.m4) := cell_of_row w4 _ 5 _ 25 (0, 0) HKa4.out
        have ca5 : w4.cell? ⟨w.heap.size, 6, none⟩ = some (.int .u8 a.m5) := cell_of_row w4 _ 6 _ 25 (0, 0) HKa4.out
        have cb0 : w4.cell? ⟨w.heap.size + 1, 1, none⟩ = some (.int .u8 b.m0) := cell_of_row w4 _ 1 _ 25 (0, 0) HKb4.out
        have cb1 : w4.cell? ⟨w.heap.size + 1, 2, none⟩ = some (.int .u8 b.m1) := cell_of_row w4 _ 2 _ 25 (0, 0) HKb4.out
        have cb2 : w4.cell? ⟨w.heap.size + 1, 3, none⟩ = some (.int .u8 b.m2) := cell_of_row w4 _ 3 _ 25 (0, 0) HKb4.out
        have cb3 : w4.cell? ⟨w.heap.size + 1, 4, none⟩ = some (.int .u8 b.m3) := cell_of_row w4 _ 4 _ 25 (0, 0) HKb4.out
        have cb4 : w4.cell? ⟨w.heap.size + 1, 5, none⟩ = some (.int .u8 b.m4) := cell_of_row w4 _ 5 _ 25 (0, 0) HKb4.out
        have cb5 : w4.cell? ⟨w.heap.size + 1, 6, none⟩ = some (.int .u8 b.m5) := cell_of_row w4 _ 6 _ 25 (0, 0) HKb4.out
        go_wp2_with (first | (refine wpList_load_g (ty := 25) (x := .tmp 3) rfl rfl w.heap.size 0 rfl 25 #[.int .i64 a.sp, .int .u8 a.m0, .int .u8 a.m1, .int .u8 a.m2, .int .u8 a.m3, .int .u8 a.m4, .int .u8 a.m5, .int .i64 a.key, .int .i64 a.pp, .int .i64 a.port, .int .i64 a.st] (0, 0) _ HKa4.out Try.underlying25 rfl (by kernel_rfl) rfl ?_) | (refine wpList_load_g (ty := 25) (x := .tmp 4) rfl rfl (w.heap.size + 1) 0 rfl 25 #[.int .i64 b.sp, .int .u8 b.m0, .int .u8 b.m1, .int .u8 b.m2, .int .u8 b.m3, .int .u8 b.m4, .int .u8 b.m5, .int .i64 b.key, .int .i64 b.pp, .int .i64 b.port, .int .i64 b.st] (0, 0) _ HKb4.out Try.underlying25 rfl (by kernel_rfl) rfl ?_) | (refine wpList_load_g (ty := 25) (x := .tmp 5) rfl rfl (w.heap.size + 2) 0 rfl 25 #[.int .i64 c.sp, .int .u8 c.m0, .int .u8 c.m1, .int .u8 c.m2, .int .u8 c.m3, .int .u8 c.m4, .int .u8 c.m5, .int .i64 c.key, .int .i64 c.pp, .int .i64 c.port, .int .i64 c.st] (0, 0) _ HKc4.out Try.underlying25 rfl (by kernel_rfl) rfl ?_))
        refine (Hkk.out w4).mono ?_
        rintro e w5 ⟨rfl, hb1⟩
        have hz1 := hb1.size
        have hs5 : w.heap.size + 2 < w5.heap.size := by omega
        have HB5 := hide (HB4.out.trans (hb1.mono (by omega)))
        have HKa5 := hide ((hb1.block w.heap.size (by omega)).trans HKa4.out)
        have HKb5 := hide ((hb1.block (w.heap.size + 1) (by omega)).trans HKb4.out)
        have HKc5 := hide ((hb1.block (w.heap.size + 2) (by omega)).trans HKc4.out)
        clear hb1 hz1 hs4 HB4 HKa4 HKb4 HKc4
        go_wp2_with (first | (refine wpList_load_g (ty := 25) (x := .tmp 3) rfl rfl w.heap.size 0 rfl 25 #[.int .i64 a.sp, .int .u8 a.m0, .int .u8 a.m1, .int .u8 a.m2, .int .u8 a.m3, .int .u8 a.m4, .int .u8 a.m5, .int .i64 a.key, .int .i64 a.pp, .int .i64 a.port, .int .i64 a.st] (0, 0) _ HKa5.out Try.underlying25 rfl (by kernel_rfl) rfl ?_) | (refine wpList_load_g (ty := 25) (x := .tmp 4) rfl rfl (w.heap.size + 1) 0 rfl 25 #[.int .i64 b.sp, .int .u8 b.m0, .int .u8 b.m1, .int .u8 b.m2, .int .u8 b.m3, .int .u8 b.m4, .int .u8 b.m5, .int .i64 b.key, .int .i64 b.pp, .int .i64 b.port, .int .i64 b.st] (0, 0) _ HKb5.out Try.underlying25 rfl (by kernel_rfl) rfl ?_) | (refine wpList_load_g (ty := 25) (x := .tmp 5) rfl rfl (w.heap.size + 2) 0 rfl 25 #[.int .i64 c.sp, .int .u8 c.m0, .int .u8 c.m1, .int .u8 c.m2, .int .u8 c.m3, .int .u8 c.m4, .int .u8 c.m5, .int .i64 c.key, .int .i64 c.pp, .int .i64 c.port, .int .i64 c.st] (0, 0) _ HKc5.out Try.underlying25 rfl (by kernel_rfl) rfl ?_))
        refine (Haa.out w5).mono ?_
        rintro e w6 ⟨rfl, hb1⟩
        have hz1 := hb1.size
        have hs6 : w.heap.size + 2 < w6.heap.size := by omega
        have HB6 := hide (HB5.out.trans (hb1.mono (by omega)))
        have HKa6 := hide ((hb1.block w.heap.size (by omega)).trans HKa5.out)
        have HKb6 := hide ((hb1.block (w.heap.size + 1) (by omega)).trans HKb5.out)
        have HKc6 := hide ((hb1.block (w.heap.size + 2) (by omega)).trans HKc5.out)
        clear hb1 hz1 hs5 HB5 HKa5 HKb5 HKc5
        go_wp2_with (first | (refine wpList_load_g (ty := 25) (x := .tmp 3) rfl rfl w.heap.size 0 rfl 25 #[.int .i64 a.sp, .int .u8 a.m0, .int .u8 a.m1, .int .u8 a.m2, .int .u8 a.m3, .int .u8 a.m4, .int .u8 a.m5, .int .i64 a.key, .int .i64 a.pp, .int .i64 a.port, .int .i64 a.st] (0, 0) _ HKa6.out Try.underlying25 rfl (by kernel_rfl) rfl ?_) | (refine wpList_load_g (ty := 25) (x := .tmp 4) rfl rfl (w.heap.size + 1) 0 rfl 25 #[.int .i64 b.sp, .int .u8 b.m0, .int .u8 b.m1, .int .u8 b.m2, .int .u8 b.m3, .int .u8 b.m4, .int .u8 b.m5, .int .i64 b.key, .int .i64 b.pp, .int .i64 b.port, .int .i64 b.st] (0, 0) _ HKb6.out Try.underlying25 rfl (by kernel_rfl) rfl ?_) | (refine wpList_load_g (ty := 25) (x := .tmp 5) rfl rfl (w.heap.size + 2) 0 rfl 25 #[.int .i64 c.sp, .int .u8 c.m0, .int .u8 c.m1, .int .u8 c.m2, .int .u8 c.m3, .int .u8 c.m4, .int .u8 c.m5, .int .i64 c.key, .int .i64 c.pp, .int .i64 c.port, .int .i64 c.st] (0, 0) _ HKc6.out Try.underlying25 rfl (by kernel_rfl) rfl ?_))
        refine (Hba.out w6).mono ?_
        rintro e w7 ⟨rfl, hb1⟩
        have hz1 := hb1.size
        have hs7 : w.heap.size + 2 < w7.heap.size := by omega
        have HB7 := hide (HB6.out.trans (hb1.mono (by omega)))
        have HKa7 := hide ((hb1.block w.heap.size (by omega)).trans HKa6.out)
        have HKb7 := hide ((hb1.block (w.heap.size + 1) (by omega)).trans HKb6.out)
        have HKc7 := hide ((hb1.block (w.heap.size + 2) (by omega)).trans HKc6.out)
        clear hb1 hz1 hs6 HB6 HKa6 HKb6 HKc6
        go_wp2_with fail
        go_ret
        exact ⟨rfl, HB7.out⟩
    · obtain rfl := h2 rfl rfl
      clear h1 h2 h3
      cases b0
      all_goals
        go_enter Try.func6, Try.ntmps6
        go_wp2_with fail
        refine (awake_any _).mono ?_
        rintro e w1 ⟨rfl, hb1⟩
        have hz1 := hb1.size
        simp at hz1
        have hs1 : w.heap.size + 2 < w1.heap.size := by omega
        have HB1 := hide (((((Below.refl w.heap.size w).alloc (Nat.le_refl _) (.cells #[.int .i64 a.sp, .int .u8 a.m0, .int .u8 a.m1, .int .u8 a.m2, .int .u8 a.m3, .int .u8 a.m4, .int .u8 a.m5, .int .i64 a.key, .int .i64 a.pp, .int .i64 a.port, .int .i64 a.st] 25)).alloc (by simp) (.cells #[.int .i64 b.sp, .int .u8 b.m0, .int .u8 b.m1, .int .u8 b.m2, .int .u8 b.m3, .int .u8 b.m4, .int .u8 b.m5, .int .i64 b.key, .int .i64 b.pp, .int .i64 b.port, .int .i64 b.st] 25)).alloc (by simp <;> omega) (.cells #[.int .i64 c.sp, .int .u8 c.m0, .int .u8 c.m1, .int .u8 c.m2, .int .u8 c.m3, .int .u8 c.m4, .int .u8 c.m5, .int .i64 c.key, .int .i64 c.pp, .int .i64 c.port, .int .i64 c.st] 25)).trans (hb1.mono (by simp <;> omega)))
        have HKa1 := hide (show w1.heap[w.heap.size]? = some (.cells #[.int .i64 a.sp, .int .u8 a.m0, .int .u8 a.m1, .int .u8 a.m2, .int .u8 a.m3, .int .u8 a.m4, .int .u8 a.m5, .int .i64 a.key, .int .i64 a.pp, .int .i64 a.port, .int .i64 a.st] 25 (0, 0)) from (hb1.block w.heap.size (by simp; omega)).trans HB0.out)
        have HKb1 := hide (show w1.heap[w.heap.size + 1]? = some (.cells #[.int .i64 b.sp, .int .u8 b.m0, .int .u8 b.m1, .int .u8 b.m2, .int .u8 b.m3, .int .u8 b.m4, .int .u8 b.m5, .int .i64 b.key, .int .i64 b.pp, .int .i64 b.port, .int .i64 b.st] 25 (0, 0)) from (hb1.block (w.heap.size + 1) (by simp <;> omega)).trans HB0'.out)
        have HKc1 := hide (show w1.heap[w.heap.size + 2]? = some (.cells #[.int .i64 c.sp, .int .u8 c.m0, .int .u8 c.m1, .int .u8 c.m2, .int .u8 c.m3, .int .u8 c.m4, .int .u8 c.m5, .int .i64 c.key, .int .i64 c.pp, .int .i64 c.port, .int .i64 c.st] 25 (0, 0)) from (hb1.block (w.heap.size + 2) (by simp)).trans HB0''.out)
        clear hb1 hz1
        go_wp2_with (first | (refine wpList_load_g (ty := 25) (x := .tmp 3) rfl rfl w.heap.size 0 rfl 25 #[.int .i64 a.sp, .int .u8 a.m0, .int .u8 a.m1, .int .u8 a.m2, .int .u8 a.m3, .int .u8 a.m4, .int .u8 a.m5, .int .i64 a.key, .int .i64 a.pp, .int .i64 a.port, .int .i64 a.st] (0, 0) _ HKa1.out Try.underlying25 rfl (by kernel_rfl) rfl ?_) | (refine wpList_load_g (ty := 25) (x := .tmp 4) rfl rfl (w.heap.size + 1) 0 rfl 25 #[.int .i64 b.sp, .int .u8 b.m0, .int .u8 b.m1, .int .u8 b.m2, .int .u8 b.m3, .int .u8 b.m4, .int .u8 b.m5, .int .i64 b.key, .int .i64 b.pp, .int .i64 b.port, .int .i64 b.st] (0, 0) _ HKb1.out Try.underlying25 rfl (by kernel_rfl) rfl ?_) | (refine wpList_load_g (ty := 25) (x := .tmp 5) rfl rfl (w.heap.size + 2) 0 rfl 25 #[.int .i64 c.sp, .int .u8 c.m0, .int .u8 c.m1, .int .u8 c.m2, .int .u8 c.m3, .int .u8 c.m4, .int .u8 c.m5, .int .i64 c.key, .int .i64 c.pp, .int .i64 c.port, .int .i64 c.st] (0, 0) _ HKc1.out Try.underlying25 rfl (by kernel_rfl) rfl ?_))
        refine (Hab.out w1).mono ?_
        rintro e w2 ⟨rfl, hb1⟩
        have hz1 := hb1.size
        have hs2 : w.heap.size + 2 < w2.heap.size := by omega
        have HB2 := hide (HB1.out.trans (hb1.mono (by omega)))
        have HKa2 := hide ((hb1.block w.heap.size (by omega)).trans HKa1.out)
        have HKb2 := hide ((hb1.block (w.heap.size + 1) (by omega)).trans HKb1.out)
        have HKc2 := hide ((hb1.block (w.heap.size + 2) (by omega)).trans HKc1.out)
        clear hb1 hz1 hs1 HB1 HKa1 HKb1 HKc1
        go_wp2_with (first | (refine wpList_load_g (ty := 25) (x := .tmp 3) rfl rfl w.heap.size 0 rfl 25 #[.int .i64 a.sp, .int .u8 a.m0, .int .u8 a.m1, .int .u8 a.m2, .int .u8 a.m3, .int .u8 a.m4, .int .u8 a.m5, .int .i64 a.key, .int .i64 a.pp, .int .i64 a.port, .int .i64 a.st] (0, 0) _ HKa2.out Try.underlying25 rfl (by kernel_rfl) rfl ?_) | (refine wpList_load_g (ty := 25) (x := .tmp 4) rfl rfl (w.heap.size + 1) 0 rfl 25 #[.int .i64 b.sp, .int .u8 b.m0, .int .u8 b.m1, .int .u8 b.m2, .int .u8 b.m3, .int .u8 b.m4, .int .u8 b.m5, .int .i64 b.key, .int .i64 b.pp, .int .i64 b.port, .int .i64 b.st] (0, 0) _ HKb2.out Try.underlying25 rfl (by kernel_rfl) rfl ?_) | (refine wpList_load_g (ty := 25) (x := .tmp 5) rfl rfl (w.heap.size + 2) 0 rfl 25 #[.int .i64 c.sp, .int .u8 c.m0, .int .u8 c.m1, .int .u8 c.m2, .int .u8 c.m3, .int .u8 c.m4, .int .u8 c.m5, .int .i64 c.key, .int .i64 c.pp, .int .i64 c.port, .int .i64 c.st] (0, 0) _ HKc2.out Try.underlying25 rfl (by kernel_rfl) rfl ?_))
        refine (Hbc.out w2).mono ?_
        rintro e w3 ⟨rfl, hb1⟩
        have hz1 := hb1.size
        have hs3 : w.heap.size + 2 < w3.heap.size := by omega
        have HB3 := hide (HB2.out.trans (hb1.mono (by omega)))
        have HKa3 := hide ((hb1.block w.heap.size (by omega)).trans HKa2.out)
        have HKb3 := hide ((hb1.block (w.heap.size + 1) (by omega)).trans HKb2.out)
        have HKc3 := hide ((hb1.block (w.heap.size + 2) (by omega)).trans HKc2.out)
        clear hb1 hz1 hs2 HB2 HKa2 HKb2 HKc2
        go_wp2_with (first | (refine wpList_load_g (ty := 25) (x := .tmp 3) rfl rfl w.heap.size 0 rfl 25 #[.int .i64 a.sp, .int .u8 a.m0, .int .u8 a.m1, .int .u8 a.m2, .int .u8 a.m3, .int .u8 a.m4, .int .u8 a.m5, .int .i64 a.key, .int .i64 a.pp, .int .i64 a.port, .int .i64 a.st] (0, 0) _ HKa3.out Try.underlying25 rfl (by kernel_rfl) rfl ?_) | (refine wpList_load_g (ty := 25) (x := .tmp 4) rfl rfl (w.heap.size + 1) 0 rfl 25 #[.int .i64 b.sp, .int .u8 b.m0, .int .u8 b.m1, .int .u8 b.m2, .int .u8 b.m3, .int .u8 b.m4, .int .u8 b.m5, .int .i64 b.key, .int .i64 b.pp, .int .i64 b.port, .int .i64 b.st] (0, 0) _ HKb3.out Try.underlying25 rfl (by kernel_rfl) rfl ?_) | (refine wpList_load_g (ty := 25) (x := .tmp 5) rfl rfl (w.heap.size + 2) 0 rfl 25 #[.int .i64 c.sp, .int .u8 c.m0, .int .u8 c.m1, .int .u8 c.m2, .int .u8 c.m3, .int .u8 c.m4, .int .u8 c.m5, .int .i64 c.key, .int .i64 c.pp, .int .i64 c.port, .int .i64 c.st] (0, 0) _ HKc3.out Try.underlying25 rfl (by kernel_rfl) rfl ?_))
        refine (Hac.out w3).mono ?_
        rintro e w4 ⟨rfl, hb1⟩
        have hz1 := hb1.size
        have hs4 : w.heap.size + 2 < w4.heap.size := by omega
        have HB4 := hide (HB3.out.trans (hb1.mono (by omega)))
        have HKa4 := hide ((hb1.block w.heap.size (by omega)).trans HKa3.out)
        have HKb4 := hide ((hb1.block (w.heap.size + 1) (by omega)).trans HKb3.out)
        have HKc4 := hide ((hb1.block (w.heap.size + 2) (by omega)).trans HKc3.out)
        clear hb1 hz1 hs3 HB3 HKa3 HKb3 HKc3
        have ca : w4.cell? ⟨w.heap.size, 0, none⟩ = some (.int .i64 a.sp) := cell_of_row w4 _ 0 _ 25 (0, 0) HKa4.out
        have cb : w4.cell? ⟨w.heap.size + 1, 0, none⟩ = some (.int .i64 b.sp) := cell_of_row w4 _ 0 _ 25 (0, 0) HKb4.out
        have ca0 : w4.cell? ⟨w.heap.size, 1, none⟩ = some (.int .u8 a.m0) := cell_of_row w4 _ 1 _ 25 (0, 0) HKa4.out
        have ca1 : w4.cell? ⟨w.heap.size, 2, none⟩ = some (.int .u8 a.m1) := cell_of_row w4 _ 2 _ 25 (0, 0) HKa4.out
        have ca2 : w4.cell? ⟨w.heap.size, 3, none⟩ = some (.int .u8 a.m2) := cell_of_row w4 _ 3 _ 25 (0, 0) HKa4.out
        have ca3 : w4.cell? ⟨w.heap.size, 4, none⟩ = some (.int .u8 a.m3) := cell_of_row w4 _ 4 _ 25 (0, 0) HKa4.out
        have ca4 : w4.cell? ⟨w.heap.size, 5, none⟩ = some (.int .u8 a.m4) := cell_of_row w4 _ 5 _ 25 (0, 0) HKa4.out
        have ca5 : w4.cell? ⟨w.heap.size, 6, none⟩ = some (.int .u8 a.m5) := cell_of_row w4 _ 6 _ 25 (0, 0) HKa4.out
        have cb0 : w4.cell? ⟨w.heap.size + 1, 1, none⟩ = some (.int .u8 b.m0) := cell_of_row w4 _ 1 _ 25 (0, 0) HKb4.out
        have cb1 : w4.cell? ⟨w.heap.size + 1, 2, none⟩ = some (.int .u8 b.m1) := cell_of_row w4 _ 2 _ 25 (0, 0) HKb4.out
        have cb2 : w4.cell? ⟨w.heap.size + 1, 3, none⟩ = some (.int .u8 b.m2) := cell_of_row w4 _ 3 _ 25 (0, 0) HKb4.out
        have cb3 : w4.cell? ⟨w.heap.size + 1, 4, none⟩ = some (.int .u8 b.m3) := cell_of_row w4 _ 4 _ 25 (0, 0) HKb4.out
        have cb4 : w4.cell? ⟨w.heap.size + 1, 5, none⟩ = some (.int .u8 b.m4) := cell_of_row w4 _ 5 _ 25 (0, 0) HKb4.out
        have cb5 : w4.cell? ⟨w.heap.size + 1, 6, none⟩ = some (.int .u8 b.m5) := cell_of_row w4 _ 6 _ 25 (0, 0) HKb4.out
        go_wp2_with (first | (refine wpList_load_g (ty := 25) (x := .tmp 3) rfl rfl w.heap.size 0 rfl 25 #[.int .i64 a.sp, .int .u8 a.m0, .int .u8 a.m1, .int .u8 a.m2, .int .u8 a.m3, .int .u8 a.m4, .int .u8 a.m5, .int .i64 a.key, .int .i64 a.pp, .int .i64 a.port, .int .i64 a.st] (0, 0) _ HKa4.out Try.underlying25 rfl (by kernel_rfl) rfl ?_) | (refine wpList_load_g (ty := 25) (x := .tmp 4) rfl rfl (w.heap.size + 1) 0 rfl 25 #[.int .i64 b.sp, .int .u8 b.m0, .int .u8 b.m1, .int .u8 b.m2, .int .u8 b.m3, .int .u8 b.m4, .int .u8 b.m5, .int .i64 b.key, .int .i64 b.pp, .int .i64 b.port, .int .i64 b.st] (0, 0) _ HKb4.out Try.underlying25 rfl (by kernel_rfl) rfl ?_) | (refine wpList_load_g (ty := 25) (x := .tmp 5) rfl rfl (w.heap.size + 2) 0 rfl 25 #[.int .i64 c.sp, .int .u8 c.m0, .int .u8 c.m1, .int .u8 c.m2, .int .u8 c.m3, .int .u8 c.m4, .int .u8 c.m5, .int .i64 c.key, .int .i64 c.pp, .int .i64 c.port, .int .i64 c.st] (0, 0) _ HKc4.out Try.underlying25 rfl (by kernel_rfl) rfl ?_))
        refine (Hkk.out w4).mono ?_
        rintro e w5 ⟨rfl, hb1⟩
        have hz1 := hb1.size
        have hs5 : w.heap.size + 2 < w5.heap.size := by omega
        have HB5 := hide (HB4.out.trans (hb1.mono (by omega)))
        have HKa5 := hide ((hb1.block w.heap.size (by omega)).trans HKa4.out)
        have HKb5 := hide ((hb1.block (w.heap.size + 1) (by omega)).trans HKb4.out)
        have HKc5 := hide ((hb1.block (w.heap.size + 2) (by omega)).trans HKc4.out)
        clear hb1 hz1 hs4 HB4 HKa4 HKb4 HKc4
        go_wp2_with (first | (refine wpList_load_g (ty := 25) (x := .tmp 3) rfl rfl w.heap.size 0 rfl 25 #[.int .i64 a.sp, .int .u8 a.m0, .int .u8 a.m1, .int .u8 a.m2, .int .u8 a.m3, .int .u8 a.m4, .int .u8 a.m5, .int .i64 a.key, .int .i64 a.pp, .int .i64 a.port, .int .i64 a.st] (0, 0) _ HKa5.out Try.underlying25 rfl (by kernel_rfl) rfl ?_) | (refine wpList_load_g (ty := 25) (x := .tmp 4) rfl rfl (w.heap.size + 1) 0 rfl 25 #[.int .i64 b.sp, .int .u8 b.m0, .int .u8 b.m1, .int .u8 b.m2, .int .u8 b.m3, .int .u8 b.m4, .int .u8 b.m5, .int .i64 b.key, .int .i64 b.pp, .int .i64 b.port, .int .i64 b.st] (0, 0) _ HKb5.out Try.underlying25 rfl (by kernel_rfl) rfl ?_) | (refine wpList_load_g (ty := 25) (x := .tmp 5) rfl rfl (w.heap.size + 2) 0 rfl 25 #[.int .i64 c.sp, .int .u8 c.m0, .int .u8 c.m1, .int .u8 c.m2, .int .u8 c.m3, .int .u8 c.m4, .int .u8 c.m5, .int .i64 c.key, .int .i64 c.pp, .int .i64 c.port, .int .i64 c.st] (0, 0) _ HKc5.out Try.underlying25 rfl (by kernel_rfl) rfl ?_))
        refine (Haa.out w5).mono ?_
        rintro e w6 ⟨rfl, hb1⟩
        have hz1 := hb1.size
        have hs6 : w.heap.size + 2 < w6.heap.size := by omega
        have HB6 := hide (HB5.out.trans (hb1.mono (by omega)))
        have HKa6 := hide ((hb1.block w.heap.size (by omega)).trans HKa5.out)
        have HKb6 := hide ((hb1.block (w.heap.size + 1) (by omega)).trans HKb5.out)
        have HKc6 := hide ((hb1.block (w.heap.size + 2) (by omega)).trans HKc5.out)
        clear hb1 hz1 hs5 HB5 HKa5 HKb5 HKc5
        go_wp2_with (first | (refine wpList_load_g (ty := 25) (x := .tmp 3) rfl rfl w.heap.size 0 rfl 25 #[.int .i64 a.sp, .int .u8 a.m0, .int .u8 a.m1, .int .u8 a.m2, .int .u8 a.m3, .int .u8 a.m4, .int .u8 a.m5, .int .i64 a.key, .int .i64 a.pp, .int .i64 a.port, .int .i64 a.st] (0, 0) _ HKa6.out Try.underlying25 rfl (by kernel_rfl) rfl ?_) | (refine wpList_load_g (ty := 25) (x := .tmp 4) rfl rfl (w.heap.size + 1) 0 rfl 25 #[.int .i64 b.sp, .int .u8 b.m0, .int .u8 b.m1, .int .u8 b.m2, .int .u8 b.m3, .int .u8 b.m4, .int .u8 b.m5, .int .i64 b.key, .int .i64 b.pp, .int .i64 b.port, .int .i64 b.st] (0, 0) _ HKb6.out Try.underlying25 rfl (by kernel_rfl) rfl ?_) | (refine wpList_load_g (ty := 25) (x := .tmp 5) rfl rfl (w.heap.size + 2) 0 rfl 25 #[.int .i64 c.sp, .int .u8 c.m0, .int .u8 c.m1, .int .u8 c.m2, .int .u8 c.m3, .int .u8 c.m4, .int .u8 c.m5, .int .i64 c.key, .int .i64 c.pp, .int .i64 c.port, .int .i64 c.st] (0, 0) _ HKc6.out Try.underlying25 rfl (by kernel_rfl) rfl ?_))
        refine (Hba.out w6).mono ?_
        rintro e w7 ⟨rfl, hb1⟩
        have hz1 := hb1.size
        have hs7 : w.heap.size + 2 < w7.heap.size := by omega
        have HB7 := hide (HB6.out.trans (hb1.mono (by omega)))
        have HKa7 := hide ((hb1.block w.heap.size (by omega)).trans HKa6.out)
        have HKb7 := hide ((hb1.block (w.heap.size + 1) (by omega)).trans HKb6.out)
        have HKc7 := hide ((hb1.block (w.heap.size + 2) (by omega)).trans HKc6.out)
        clear hb1 hz1 hs6 HB6 HKa6 HKb6 HKc6
        go_wp2_with fail
        go_ret
        exact ⟨rfl, HB7.out⟩

theorem lacpduOrder_any (a b c : Inf) (w : World) (ha : a.wf) (hb : b.wf) (hc : c.wf) : Calls Try.prog 6 #[.agg #[.int .i64 a.sp, .int .u8 a.m0, .int .u8 a.m1, .int .u8 a.m2, .int .u8 a.m3, .int .u8 a.m4, .int .u8 a.m5, .int .i64 a.key, .int .i64 a.pp, .int .i64 a.port, .int .i64 a.st], .agg #[.int .i64 b.sp, .int .u8 b.m0, .int .u8 b.m1, .int .u8 b.m2, .int .u8 b.m3, .int .u8 b.m4, .int .u8 b.m5, .int .i64 b.key, .int .i64 b.pp, .int .i64 b.port, .int .i64 b.st], .agg #[.int .i64 c.sp, .int .u8 c.m0, .int .u8 c.m1, .int .u8 c.m2, .int .u8 c.m3, .int .u8 c.m4, .int .u8 c.m5, .int .i64 c.key, .int .i64 c.pp, .int .i64 c.port, .int .i64 c.st]] w fun e w' => e = .returned (.bool true) ∧ Below w.heap.size w w' :=
  order_walk a b c w (less a b) (less b c) (less a c) (less b a) (a.sp == b.sp) (eqM a b) (hide fun u => less_any a b u ha hb) (hide fun u => less_any b c u hb hc) (hide fun u => less_any a c u ha hc) (hide fun u => less_any b a u hb ha)
    (hide fun u => by have := less_any a a u ha ha; rw [less_self] at this; exact this) (hide fun u => by have := knows_any a a u; rw [knows_self] at this; exact this) rfl (fun u => run_eqM23 u a b) less_asym less_trans (less_tri ha hb)

/-! ### The row -/
set_option maxRecDepth 100000 in
theorem lacpduOrder_lifted (os : Os) (started : os.Started) (H : Type) (enc : TypeId × Value → H) :
    ReturnsInHanded {} Try.checked os 6 .any (Rows.lacpduOrderSpec.pre6 enc Try.prog Try.f6 Rows.lacpduOrderRow.domain false) (Rows.lacpduOrderSpec.post enc Try.prog Try.f6 false true false false) := by
  refine returnsInHanded_of_change (C := Try.checked) own started (by kernel_rfl) Try.func6
    (ChangeSpec.witness6 (enc := enc) (C := Try.checked) false ⟨#[], #[.agg #[.int .i64 0, .int .u8 0, .int .u8 0, .int .u8 0, .int .u8 0, .int .u8 0, .int .u8 0, .int .i64 0, .int .i64 0, .int .i64 0, .int .i64 0], .agg #[.int .i64 0, .int .u8 0, .int .u8 0, .int .u8 0, .int .u8 0, .int .u8 0, .int .u8 0, .int .i64 0, .int .i64 0, .int .i64 0, .int .i64 0], .agg #[.int .i64 0, .int .u8 0, .int .u8 0, .int .u8 0, .int .u8 0, .int .u8 0, .int .u8 0, .int .i64 0, .int .i64 0, .int .i64 0, .int .i64 0]], []⟩ 8 (by kernel_rfl) (by kernel_rfl) (by kernel_rfl) (by kernel_rfl)) ?_
  intro W base args ds gs before hval0 hW hcnd _
  have hval : ∀ (j : Nat) t v, Try.f6.params[j]? = some t → args[j]? = some v → Value.okWide Try.prog W .any base t v := hval0
  have hW' : DataW.Whole enc Try.prog Try.f6.params.toList Rows.lacpduOrderSpec.vars false W args.toList ds gs before := hW
  have hlen : args.toList.length = Try.f6.params.toList.length ∧ ds.length = Try.f6.params.toList.length := by
    obtain ⟨p, q, hA, _⟩ := hW'
    exact trodAll_len _ _ _ _ hA
  rw [Try.params6] at hval hlen
  obtain ⟨p0, p1, p2, rfl⟩ := args3 args hlen.1
  obtain ⟨d0, d1, d2, rfl⟩ := list3 ds hlen.2
  obtain rfl : gs = [] := by
    obtain ⟨p, q, _, hV, _⟩ := hW'
    exact (trodVars_none hV).1
  obtain ⟨x, rfl, hx⟩ := open_inf (hval 0 25 p0 rfl rfl)
  obtain ⟨y, rfl, hy⟩ := open_inf (hval 1 25 p1 rfl rfl)
  obtain ⟨z, rfl, hz⟩ := open_inf (hval 2 25 p2 rfl rfl)
  refine (lacpduOrder_any x y z W hx hy hz).mono fun e W' ⟨he, hb⟩ => ?_
  subst he
  have hp : ∀ t ∈ Try.f6.params.toList, Try.prog.readableRec t = true ∧ t < Try.prog.types.size := by
    rw [Try.params6]
    intro t ht
    simp at ht
    rcases ht with rfl
    all_goals first | exact readable25
  have hpost := law_post (enc := enc) (P := Try.prog) (f := Try.f6) (s := Rows.lacpduOrderSpec) (tb := 4) (W' := W') laidOut hW' rfl (by kernel_rfl) Try.underlying4 hp ⟨rfl, rfl, rfl⟩ hb
  exact ⟨_, rfl, hpost⟩

theorem lacpduOrder_holds : Rows.LacpduOrderSaid :=
  OpenClaim.holds_of_wide 6 Try.f6 rfl rfl rfl rfl rfl rfl rfl ⟨rfl, rfl, rfl, rfl, rfl⟩ rfl rfl rfl rfl rfl (by kernel_rfl) Try.func6 (by kernel_rfl)
    (of_decide_eq_true (by kernel_rfl)) (by unfold Func.isWrapper; first | (rw [if_pos (by decide +kernel)]; kernel_rfl) | (rw [if_neg (by decide +kernel)]; exact ⟨rfl, rfl⟩))
    (fun os started H enc _ => lacpduOrder_lifted os started H enc)
#print axioms lacpduOrder_holds
end Go.Proofs.Ytooieocfgifpgaa

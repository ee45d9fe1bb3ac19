/-
  Whether one end knows the other one; which system is ahead.
-/
import Derived.Test.YtooieocfgifpgaaLpK
namespace Go.Proofs.Ytooieocfgifpgaa
open Go.RowKit Go.WideShapes Go.ChangeShapes
set_option linter.unusedVariables false

theorem guard23 : Try.prog.eqGuardType Try.prog.depth 23 = false := by kernel_rfl
theorem wpList_eq25 {ops : Array Oper} {rest : List Oper} {o : Oper} {a : Act} {w : World} {Q : Exit → Act → World → Prop} {s t : Operand} (ho : o.op = .binOp .eql 25 s t 25) (hgd : o.guard = none) (x y : Inf) (hx : a.eval s = .agg #[.int .i64 x.sp, .int .u8 x.m0, .int .u8 x.m1, .int .u8 x.m2, .int .u8 x.m3, .int .u8 x.m4, .int .u8 x.m5, .int .i64 x.key, .int .i64 x.pp, .int .i64 x.port, .int .i64 x.st]) (hy : a.eval t = .agg #[.int .i64 y.sp, .int .u8 y.m0, .int .u8 y.m1, .int .u8 y.m2, .int .u8 y.m3, .int .u8 y.m4, .int .u8 y.m5, .int .i64 y.key, .int .i64 y.pp, .int .i64 y.port, .int .i64 y.st]) {E : Bool} (hE : eqI x y = E)
    (hk : wpList Try.prog ops Q rest (a.put o.dst (.bool E)) w) : wpList Try.prog ops Q (o :: rest) a w :=
  wpList_run (by simp [Region.wanted, hgd]) (.bool E) (by subst hE; exact run_eq_op ho hx hy guard25 (run_eqI w 9997 x y)) hk
theorem run_eqM23 (w : World) (x y : Inf) : (Op.equalIn 10000 23 (.agg #[.int .u8 x.m0, .int .u8 x.m1, .int .u8 x.m2, .int .u8 x.m3, .int .u8 x.m4, .int .u8 x.m5]) (.agg #[.int .u8 y.m0, .int .u8 y.m1, .int .u8 y.m2, .int .u8 y.m3, .int .u8 y.m4, .int .u8 y.m5])).run Try.prog w = .ok (eqM x y) w := by
  obtain ⟨i5, hi5, _⟩ := isz5
  exact run_eq6 (d := 9998) Try.underlying23 Try.underlying5 hi5 cellsOf5 _ _ _ _ _ _ _ _ _ _ _ _

set_option maxHeartbeats 4000000 in
theorem knows_any (p a : Inf) (w : World) : Calls Try.prog 19 #[.agg #[.int .i64 p.sp, .int .u8 p.m0, .int .u8 p.m1, .int .u8 p.m2, .int .u8 p.m3, .int .u8 p.m4, .int .u8 p.m5, .int .i64 p.key, .int .i64 p.pp, .int .i64 p.port, .int .i64 p.st], .agg #[.int .i64 a.sp, .int .u8 a.m0, .int .u8 a.m1, .int .u8 a.m2, .int .u8 a.m3, .int .u8 a.m4, .int .u8 a.m5, .int .i64 a.key, .int .i64 a.pp, .int .i64 a.port, .int .i64 a.st]] w fun e w' => e = .returned (.bool (knows p a)) ∧ Below w.heap.size w w' := by
  have hk : knows p a = (eqI p.bare a.bare && ((hb p.st 2 == hb a.st 2) && (!hb p.st 3 || hb a.st 3))) := rfl
  have hm := many_eq p.st a.st
  have hs := sync_eq p.st a.st
  obtain ⟨E, hE⟩ : ∃ E, eqI p.bare a.bare = E := ⟨_, rfl⟩
  rw [hE] at hk
  generalize (hb p.st 2 == hb a.st 2) = M at hk hm
  generalize (!hb p.st 3 || hb a.st 3) = S at hk hs
  have HK := hide hk; have HE := hide hE
  clear hk hE
  cases E <;> cases M <;> cases S
  all_goals
    go_enter Try.func19, Try.ntmps19
    go_wp2_with (refine wpList_eq25 rfl rfl p.bare a.bare rfl rfl HE.out ?_)
    go_ret
    exact ⟨by rw [HK.out]; rfl, (by repeat' (first | with_reducible exact Below.refl _ _ | with_reducible assumption | with_reducible refine Below.setCell ?_ ?_ _ | with_reducible refine Below.alloc ?_ ?_ _ | with_reducible refine below_dn ?_ _ | with_reducible refine Below.drew ?_ | omega | (simp; done) | (simp; omega)))⟩

theorem ne_of {x y : Int} {b : Bool} (h : (x == y) = b) : (x != y) = !b := by simp [bne, h]
set_option maxHeartbeats 4000000 in
theorem refKnows_any (p a : Inf) (w : World) : Calls Try.prog 20 #[.agg #[.int .i64 p.sp, .int .u8 p.m0, .int .u8 p.m1, .int .u8 p.m2, .int .u8 p.m3, .int .u8 p.m4, .int .u8 p.m5, .int .i64 p.key, .int .i64 p.pp, .int .i64 p.port, .int .i64 p.st], .agg #[.int .i64 a.sp, .int .u8 a.m0, .int .u8 a.m1, .int .u8 a.m2, .int .u8 a.m3, .int .u8 a.m4, .int .u8 a.m5, .int .i64 a.key, .int .i64 a.pp, .int .i64 a.port, .int .i64 a.st]] w fun e w' => e = .returned (.bool (knows p a)) ∧ Below w.heap.size w w' := by
  obtain ⟨i5, hi5, _⟩ := isz5
  have hk : knows p a = (((p.sp == a.sp) && (eqM p a && ((p.key == a.key) && ((p.pp == a.pp) && ((p.port == a.port) && ((0 : Int) == 0)))))) && ((hb p.st 2 == hb a.st 2) && (!hb p.st 3 || hb a.st 3))) := rfl
  have h4 : (bits .and .i64 p.st 4 == bits .and .i64 a.st 4) = (hb p.st 2 == hb a.st 2) := by
    rw [and4, and4]; cases hb p.st 2 <;> cases hb a.st 2 <;> decide
  have h8 : (bits .and .i64 p.st 8 == 0) = !hb p.st 3 := by rw [and8]; cases hb p.st 3 <;> decide
  have g8 : (bits .and .i64 a.st 8 != 0) = hb a.st 3 := by rw [and8]; cases hb a.st 3 <;> decide
  generalize (hb p.st 2 == hb a.st 2) = M at hk h4
  generalize (!hb p.st 3) = S at hk h8
  generalize hb a.st 3 = T at hk g8
  have h1 := fun w => run_eqM23 w p a
  generalize eqM p a = b1 at hk h1
  generalize h0 : (p.sp == a.sp) = b0 at hk
  generalize h2 : (p.key == a.key) = b2 at hk
  generalize h3 : (p.pp == a.pp) = b3 at hk
  generalize h5 : (p.port == a.port) = b5 at hk
  have e0 := ne_of h0; have e2 := ne_of h2; have e3 := ne_of h3; have e5 := ne_of h5
  have HK := hide hk
  clear hk h0 h2 h3 h5 hi5
  cases b0
  · skip
    try simp only [Bool.not_true] at *
    try simp only [Bool.not_false] at *
    go_enter Try.func20, Try.ntmps20
    go_wp2
    go_ret
    exact ⟨by rw [HK.out]; simp, (by repeat' (first | with_reducible exact Below.refl _ _ | with_reducible assumption | with_reducible refine Below.setCell ?_ ?_ _ | with_reducible refine Below.alloc ?_ ?_ _ | with_reducible refine below_dn ?_ _ | with_reducible refine Below.drew ?_ | omega | (simp; done) | (simp; omega)))⟩
  cases b1
  · skip
    try simp only [Bool.not_true] at *
    try simp only [Bool.not_false] at *
    go_enter Try.func20, Try.ntmps20
    go_wp2
    go_ret
    exact ⟨by rw [HK.out]; simp, (by repeat' (first | with_reducible exact Below.refl _ _ | with_reducible assumption | with_reducible refine Below.setCell ?_ ?_ _ | with_reducible refine Below.alloc ?_ ?_ _ | with_reducible refine below_dn ?_ _ | with_reducible refine Below.drew ?_ | omega | (simp; done) | (simp; omega)))⟩
  cases b2
  · skip
    try simp only [Bool.not_true] at *
    try simp only [Bool.not_false] at *
    go_enter Try.func20, Try.ntmps20
    go_wp2
    go_ret
    exact ⟨by rw [HK.out]; simp, (by repeat' (first | with_reducible exact Below.refl _ _ | with_reducible assumption | with_reducible refine Below.setCell ?_ ?_ _ | with_reducible refine Below.alloc ?_ ?_ _ | with_reducible refine below_dn ?_ _ | with_reducible refine Below.drew ?_ | omega | (simp; done) | (simp; omega)))⟩
  cases b3
  · skip
    try simp only [Bool.not_true] at *
    try simp only [Bool.not_false] at *
    go_enter Try.func20, Try.ntmps20
    go_wp2
    go_ret
    exact ⟨by rw [HK.out]; simp, (by repeat' (first | with_reducible exact Below.refl _ _ | with_reducible assumption | with_reducible refine Below.setCell ?_ ?_ _ | with_reducible refine Below.alloc ?_ ?_ _ | with_reducible refine below_dn ?_ _ | with_reducible refine Below.drew ?_ | omega | (simp; done) | (simp; omega)))⟩
  cases b5
  · skip
    try simp only [Bool.not_true] at *
    try simp only [Bool.not_false] at *
    go_enter Try.func20, Try.ntmps20
    go_wp2
    go_ret
    exact ⟨by rw [HK.out]; simp, (by repeat' (first | with_reducible exact Below.refl _ _ | with_reducible assumption | with_reducible refine Below.setCell ?_ ?_ _ | with_reducible refine Below.alloc ?_ ?_ _ | with_reducible refine below_dn ?_ _ | with_reducible refine Below.drew ?_ | omega | (simp; done) | (simp; omega)))⟩
  cases M
  · skip
    try simp only [Bool.not_true] at *
    try simp only [Bool.not_false] at *
    go_enter Try.func20, Try.ntmps20
    go_wp2
    go_ret
    exact ⟨by rw [HK.out]; simp, (by repeat' (first | with_reducible exact Below.refl _ _ | with_reducible assumption | with_reducible refine Below.setCell ?_ ?_ _ | with_reducible refine Below.alloc ?_ ?_ _ | with_reducible refine below_dn ?_ _ | with_reducible refine Below.drew ?_ | omega | (simp; done) | (simp; omega)))⟩
  cases S
  rotate_left
  · skip
    try simp only [Bool.not_true] at *
    try simp only [Bool.not_false] at *
    go_enter Try.func20, Try.ntmps20
    go_wp2
    go_ret
    exact ⟨by rw [HK.out]; simp, (by repeat' (first | with_reducible exact Below.refl _ _ | with_reducible assumption | with_reducible refine Below.setCell ?_ ?_ _ | with_reducible refine Below.alloc ?_ ?_ _ | with_reducible refine below_dn ?_ _ | with_reducible refine Below.drew ?_ | omega | (simp; done) | (simp; omega)))⟩
  cases T
  · skip
    try simp only [Bool.not_true] at *
    try simp only [Bool.not_false] at *
    go_enter Try.func20, Try.ntmps20
    go_wp2
    go_ret
    exact ⟨by rw [HK.out]; simp, (by repeat' (first | with_reducible exact Below.refl _ _ | with_reducible assumption | with_reducible refine Below.setCell ?_ ?_ _ | with_reducible refine Below.alloc ?_ ?_ _ | with_reducible refine below_dn ?_ _ | with_reducible refine Below.drew ?_ | omega | (simp; done) | (simp; omega)))⟩
  · skip
    try simp only [Bool.not_true] at *
    try simp only [Bool.not_false] at *
    go_enter Try.func20, Try.ntmps20
    go_wp2
    go_ret
    exact ⟨by rw [HK.out]; simp, (by repeat' (first | with_reducible exact Below.refl _ _ | with_reducible assumption | with_reducible refine Below.setCell ?_ ?_ _ | with_reducible refine Below.alloc ?_ ?_ _ | with_reducible refine below_dn ?_ _ | with_reducible refine Below.drew ?_ | omega | (simp; done) | (simp; omega)))⟩

theorem less_any (x y : Inf) (w : World) (hx : x.wf) (hy : y.wf) : Calls Try.prog 21 #[.agg #[.int .i64 x.sp, .int .u8 x.m0, .int .u8 x.m1, .int .u8 x.m2, .int .u8 x.m3, .int .u8 x.m4, .int .u8 x.m5, .int .i64 x.key, .int .i64 x.pp, .int .i64 x.port, .int .i64 x.st], .agg #[.int .i64 y.sp, .int .u8 y.m0, .int .u8 y.m1, .int .u8 y.m2, .int .u8 y.m3, .int .u8 y.m4, .int .u8 y.m5, .int .i64 y.key, .int .i64 y.pp, .int .i64 y.port, .int .i64 y.st]] w fun e w' => e = .returned (.bool (less x y)) ∧ Below w.heap.size w w' := by
  obtain ⟨-, x0, x1, x2, x3, x4, x5, -, -, -, -⟩ := hx
  obtain ⟨-, y0, y1, y2, y3, y4, y5, -, -, -, -⟩ := hy
  have hk : less x y = (decide (x.sp < y.sp) || ((x.sp == y.sp) && decide (cmp6 x.m0 x.m1 x.m2 x.m3 x.m4 x.m5 y.m0 y.m1 y.m2 y.m3 y.m4 y.m5 < 0))) := rfl
  have HC := hide (fun u => compare_any x.m0 x.m1 x.m2 x.m3 x.m4 x.m5 y.m0 y.m1 y.m2 y.m3 y.m4 y.m5 u x0 x1 x2 x3 x4 x5 y0 y1 y2 y3 y4 y5)
  generalize cmp6 x.m0 x.m1 x.m2 x.m3 x.m4 x.m5 y.m0 y.m1 y.m2 y.m3 y.m4 y.m5 = c at hk HC
  clear x0 x1 x2 x3 x4 x5 y0 y1 y2 y3 y4 y5
  rcases (show x.sp < y.sp ∨ x.sp = y.sp ∨ y.sp < x.sp by omega) with h | h | h
  · have HR := hide (show less x y = true by rw [hk]; simp [h])
    clear hk
    go_enter Try.func21, Try.ntmps21
    go_wp2_with fail
    go_ret
    exact ⟨by rw [HR.out]; rfl, (by repeat' (first | with_reducible exact Below.refl _ _ | with_reducible assumption | with_reducible refine Below.setCell ?_ ?_ _ | with_reducible refine Below.alloc ?_ ?_ _ | with_reducible refine below_dn ?_ _ | with_reducible refine Below.drew ?_ | omega | (simp; done) | (simp; omega)))⟩
  · have HR := hide (show less x y = decide (c < 0) by rw [hk]; simp [h])
    have h1 : decide (x.sp < y.sp) = false := by simp; omega
    have h2 : (x.sp == y.sp) = true := by simp [h]
    clear hk h
    go_enter Try.func21, Try.ntmps21
    go_wp2_with fail
    refine (HC.out _).mono ?_
    rintro e w1 ⟨rfl, hb1⟩
    have HB1 := hide hb1
    clear hb1
    go_wp2_with fail
    go_ret
    exact ⟨by rw [HR.out]; simp, (((Below.refl w.heap.size w).alloc (Nat.le_refl _) _).alloc (by simp) _).trans (HB1.out.mono (by simp; omega))⟩
  · have HR := hide (show less x y = false by rw [hk]; simp; omega)
    have h1 : decide (x.sp < y.sp) = false := by simp; omega
    have h2 : (x.sp == y.sp) = false := by simp; omega
    clear hk h
    go_enter Try.func21, Try.ntmps21
    go_wp2_with fail
    go_ret
    exact ⟨by rw [HR.out]; rfl, (by repeat' (first | with_reducible exact Below.refl _ _ | with_reducible assumption | with_reducible refine Below.setCell ?_ ?_ _ | with_reducible refine Below.alloc ?_ ?_ _ | with_reducible refine below_dn ?_ _ | with_reducible refine Below.drew ?_ | omega | (simp; done) | (simp; omega)))⟩
theorem refLess_any (x y : Inf) (w : World) (hx : x.wf) (hy : y.wf) : Calls Try.prog 22 #[.agg #[.int .i64 x.sp, .int .u8 x.m0, .int .u8 x.m1, .int .u8 x.m2, .int .u8 x.m3, .int .u8 x.m4, .int .u8 x.m5, .int .i64 x.key, .int .i64 x.pp, .int .i64 x.port, .int .i64 x.st], .agg #[.int .i64 y.sp, .int .u8 y.m0, .int .u8 y.m1, .int .u8 y.m2, .int .u8 y.m3, .int .u8 y.m4, .int .u8 y.m5, .int .i64 y.key, .int .i64 y.pp, .int .i64 y.port, .int .i64 y.st]] w fun e w' => e = .returned (.bool (less x y)) ∧ Below w.heap.size w w' := by
  obtain ⟨-, x0, x1, x2, x3, x4, x5, -, -, -, -⟩ := hx
  obtain ⟨-, y0, y1, y2, y3, y4, y5, -, -, -, -⟩ := hy
  have hk : less x y = (decide (x.sp < y.sp) || ((x.sp == y.sp) && decide (cmp6 x.m0 x.m1 x.m2 x.m3 x.m4 x.m5 y.m0 y.m1 y.m2 y.m3 y.m4 y.m5 < 0))) := rfl
  have HC := hide (fun u => refCompare_any x.m0 x.m1 x.m2 x.m3 x.m4 x.m5 y.m0 y.m1 y.m2 y.m3 y.m4 y.m5 u x0 x1 x2 x3 x4 x5 y0 y1 y2 y3 y4 y5)
  generalize cmp6 x.m0 x.m1 x.m2 x.m3 x.m4 x.m5 y.m0 y.m1 y.m2 y.m3 y.m4 y.m5 = c at hk HC
  clear x0 x1 x2 x3 x4 x5 y0 y1 y2 y3 y4 y5
  rcases (show x.sp < y.sp ∨ x.sp = y.sp ∨ y.sp < x.sp by omega) with h | h | h
  · have HR := hide (show less x y = true by rw [hk]; simp [h])
    clear hk
    go_enter Try.func22, Try.ntmps22
    go_wp2_with fail
    go_ret
    exact ⟨by rw [HR.out]; rfl, (by repeat' (first | with_reducible exact Below.refl _ _ | with_reducible assumption | with_reducible refine Below.setCell ?_ ?_ _ | with_reducible refine Below.alloc ?_ ?_ _ | with_reducible refine below_dn ?_ _ | with_reducible refine Below.drew ?_ | omega | (simp; done) | (simp; omega)))⟩
  · have HR := hide (show less x y = decide (c < 0) by rw [hk]; simp [h])
    have h1 : decide (x.sp < y.sp) = false := by simp; omega
    have h2 : (x.sp == y.sp) = true := by simp [h]
    clear hk h
    go_enter Try.func22, Try.ntmps22
    go_wp2_with fail
    refine (HC.out _).mono ?_
    rintro e w1 ⟨rfl, hb1⟩
    have HB1 := hide hb1
    clear hb1
    go_wp2_with fail
    go_ret
    exact ⟨by rw [HR.out]; simp, (((Below.refl w.heap.size w).alloc (Nat.le_refl _) _).alloc (by simp) _).trans (HB1.out.mono (by simp; omega))⟩
  · have HR := hide (show less x y = false by rw [hk]; simp; omega)
    have h1 : decide (x.sp < y.sp) = false := by simp; omega
    have h2 : (x.sp == y.sp) = false := by simp; omega
    clear hk h
    go_enter Try.func22, Try.ntmps22
    go_wp2_with fail
    go_ret
    exact ⟨by rw [HR.out]; rfl, (by repeat' (first | with_reducible exact Below.refl _ _ | with_reducible assumption | with_reducible refine Below.setCell ?_ ?_ _ | with_reducible refine Below.alloc ?_ ?_ _ | with_reducible refine below_dn ?_ _ | with_reducible refine Below.drew ?_ | omega | (simp; done) | (simp; omega)))⟩
end Go.Proofs.Ytooieocfgifpgaa

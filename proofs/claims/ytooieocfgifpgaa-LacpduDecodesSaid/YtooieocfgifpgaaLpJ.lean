/-
  '==' on infos and on what links tell.
-/
import Derived.Test.YtooieocfgifpgaaLpI
namespace Go.Proofs.Ytooieocfgifpgaa
open Go.RowKit Go.WideShapes Go.ChangeShapes
set_option linter.unusedVariables false

def eqM (x y : Inf) : Bool := decide (x.m0 = y.m0 ∧ x.m1 = y.m1 ∧ x.m2 = y.m2 ∧ x.m3 = y.m3 ∧ x.m4 = y.m4 ∧ x.m5 = y.m5)
def eqI (x y : Inf) : Bool := (x.sp == y.sp) && (eqM x y && ((x.key == y.key) && ((x.pp == y.pp) && ((x.port == y.port) && (x.st == y.st)))))
def eqL (a p : Inf) (d : Int) (b q : Inf) (f : Int) : Bool := eqI a b && (eqI p q && (d == f))
theorem eqI_iff (x y : Inf) : eqI x y = true ↔ x = y := by
  obtain ⟨xs, x0, x1, x2, x3, x4, x5, xk, xp, xq, xt⟩ := x
  obtain ⟨ys, y0, y1, y2, y3, y4, y5, yk, yp, yq, yt⟩ := y
  simp [eqI, eqM, and_assoc]
theorem eqL_iff (a p : Inf) (d : Int) (b q : Inf) (f : Int) : eqL a p d b q f = true ↔ a = b ∧ p = q ∧ d = f := by
  simp [eqL, eqI_iff]
theorem eqI_self (x : Inf) : eqI x x = true := (eqI_iff x x).2 rfl
theorem eqL_self (a p : Inf) (d : Int) : eqL a p d a p d = true := (eqL_iff _ _ _ _ _ _).2 ⟨rfl, rfl, rfl⟩

theorem fields25 : Try.prog.underlying 25 = some (.struct (Try.prog.fieldsOf 25)) := by unfold Program.fieldsOf; rw [Try.underlying25]
theorem fields27 : Try.prog.underlying 27 = some (.struct (Try.prog.fieldsOf 27)) := by unfold Program.fieldsOf; rw [Try.underlying27]
theorem stood25 : Try.prog.stoodInHeld 25 = false := by kernel_rfl
theorem stood27 : Try.prog.stoodInHeld 27 = false := by kernel_rfl
theorem cellsOf5 : Try.prog.cellsOf 5 = 1 := by kernel_rfl
theorem cellsOf23 : Try.prog.cellsOf 23 = 6 := by kernel_rfl
theorem info_of {t n : Nat} (h : (Try.prog.info? t).map (·.size) = some n) : ∃ i, Try.prog.info? t = some i ∧ i.size = n := by
  obtain ⟨i, hi, he⟩ := Option.map_eq_some_iff.1 h
  exact ⟨i, hi, he⟩
theorem isz5 : ∃ i, Try.prog.info? 5 = some i ∧ i.size = 1 := info_of (by kernel_rfl)
theorem isz23 : ∃ i, Try.prog.info? 23 = some i ∧ i.size = 6 := info_of (by kernel_rfl)
theorem isz25 : ∃ i, Try.prog.info? 25 = some i ∧ i.size = 11 := info_of (by kernel_rfl)

theorem part_int (w : World) (cs : Array Value) (o : Nat) (v : Value) (h : cs[o]? = some v) : (part 3 cs o).run Try.prog w = .ok v w := by
  simp [part, isAgg, run_underlying Try.underlying3, h]
theorem part_mac (w : World) (cs : Array Value) (o : Nat) : (part 23 cs o).run Try.prog w = .ok (.agg (cs.extract o (o + 6))) w := by
  obtain ⟨i, hi, hs⟩ := isz23
  simp [part, isAgg, run_underlying Try.underlying23, sizeOf, typeInfo, hi, hs]
theorem part_inf (w : World) (cs : Array Value) (o : Nat) : (part 25 cs o).run Try.prog w = .ok (.agg (cs.extract o (o + 11))) w := by
  obtain ⟨i, hi, hs⟩ := isz25
  simp [part, isAgg, run_underlying Try.underlying25, sizeOf, typeInfo, hi, hs]

theorem fieldStep {d : Nat} {xs ys : Array Value} {f : Field} {fs : List Field} {w : World} {a b : Value} {r : Bool} {R : Bool} (hn : f.name ≠ "_") (ha : (part f.type xs f.offset).run Try.prog w = .ok a w) (hb : (part f.type ys f.offset).run Try.prog w = .ok b w)
    (hr : (Op.equalIn d f.type a b).run Try.prog w = .ok r w) (hR : (Op.eqFields d xs ys fs).run Try.prog w = .ok R w) : (Op.eqFields d xs ys (f :: fs)).run Try.prog w = .ok (r && R) w := by
  unfold Op.eqFields
  rw [if_pos hn]
  simp only [Sem.run_bind, ha, hb, hr, Result.andThen_ok]
  cases r
  · simp
  · simpa using hR
theorem fieldEnd (d : Nat) (xs ys : Array Value) (w : World) : (Op.eqFields d xs ys []).run Try.prog w = .ok true w := by simp [Op.eqFields]

theorem run_eqI (w : World) (d : Nat) (x y : Inf) : (Op.equalIn (d + 3) 25 (.agg #[.int .i64 x.sp, .int .u8 x.m0, .int .u8 x.m1, .int .u8 x.m2, .int .u8 x.m3, .int .u8 x.m4, .int .u8 x.m5, .int .i64 x.key, .int .i64 x.pp, .int .i64 x.port, .int .i64 x.st]) (.agg #[.int .i64 y.sp, .int .u8 y.m0, .int .u8 y.m1, .int .u8 y.m2, .int .u8 y.m3, .int .u8 y.m4, .int .u8 y.m5, .int .i64 y.key, .int .i64 y.pp, .int .i64 y.port, .int .i64 y.st])).run Try.prog w = .ok (eqI x y) w := by
  obtain ⟨i5, hi5, _⟩ := isz5
  rw [run_equalIn_struct w (d + 2) 25 _ _ fields25 stood25]
  have hm := run_eq6 (P := Try.prog) (w := w) (d := d) (t := 23) (e := 5) Try.underlying23 Try.underlying5 hi5 cellsOf5 x.m0 x.m1 x.m2 x.m3 x.m4 x.m5 y.m0 y.m1 y.m2 y.m3 y.m4 y.m5
  have hfs : (Try.prog.fieldsOf 25).toList = [⟨"SysPrio", 3, 0, false, "", "", 0⟩, ⟨"Sys", 23, 1, false, "", "", 8⟩, ⟨"Key", 3, 7, false, "", "", 16⟩, ⟨"PortPrio", 3, 8, false, "", "", 24⟩, ⟨"Port", 3, 9, false, "", "", 32⟩, ⟨"State", 3, 10, false, "", "", 40⟩] := by
    unfold Program.fieldsOf
    rw [Try.underlying25]
  rw [hfs]
  have hi := fun (a b : Int) => run_equalIn_int (P := Try.prog) w (d + 1) 3 .i64 .i64 a b Try.underlying3
  have e := fieldEnd (d + 2) #[.int .i64 x.sp, .int .u8 x.m0, .int .u8 x.m1, .int .u8 x.m2, .int .u8 x.m3, .int .u8 x.m4, .int .u8 x.m5, .int .i64 x.key, .int .i64 x.pp, .int .i64 x.port, .int .i64 x.st] #[.int .i64 y.sp, .int .u8 y.m0, .int .u8 y.m1, .int .u8 y.m2, .int .u8 y.m3, .int .u8 y.m4, .int .u8 y.m5, .int .i64 y.key, .int .i64 y.pp, .int .i64 y.port, .int .i64 y.st] w
  have e5 := fieldStep (f := ⟨"State", 3, 10, false, "", "", 40⟩) (by decide) (part_int w #[.int .i64 x.sp, .int .u8 x.m0, .int .u8 x.m1, .int .u8 x.m2, .int .u8 x.m3, .int .u8 x.m4, .int .u8 x.m5, .int .i64 x.key, .int .i64 x.pp, .int .i64 x.port, .int .i64 x.st] 10 _ rfl) (part_int w #[.int .i64 y.sp, .int .u8 y.m0, .int .u8 y.m1, .int .u8 y.m2, .int .u8 y.m3, .int .u8 y.m4, .int .u8 y.m5, .int .i64 y.key, .int .i64 y.pp, .int .i64 y.port, .int .i64 y.st] 10 _ rfl) (hi x.st y.st) e
  have e4 := fieldStep (f := ⟨"Port", 3, 9, false, "", "", 32⟩) (by decide) (part_int w #[.int .i64 x.sp, .int .u8 x.m0, .int .u8 x.m1, .int .u8 x.m2, .int .u8 x.m3, .int .u8 x.m4, .int .u8 x.m5, .int .i64 x.key, .int .i64 x.pp, .int .i64 x.port, .int .i64 x.st] 9 _ rfl) (part_int w #[.int .i64 y.sp, .int .u8 y.m0, .int .u8 y.m1, .int .u8 y.m2, .int .u8 y.m3, .int .u8 y.m4, .int .u8 y.m5, .int .i64 y.key, .int .i64 y.pp, .int .i64 y.port, .int .i64 y.st] 9 _ rfl) (hi x.port y.port) e5
  have e3 := fieldStep (f := ⟨"PortPrio", 3, 8, false, "", "", 24⟩) (by decide) (part_int w #[.int .i64 x.sp, .int .u8 x.m0, .int .u8 x.m1, .int .u8 x.m2, .int .u8 x.m3, .int .u8 x.m4, .int .u8 x.m5, .int .i64 x.key, .int .i64 x.pp, .int .i64 x.port, .int .i64 x.st] 8 _ rfl) (part_int w #[.int .i64 y.sp, .int .u8 y.m0, .int .u8 y.m1, .int .u8 y.m2, .int .u8 y.m3, .int .u8 y.m4, .int .u8 y.m5, .int .i64 y.key, .int .i64 y.pp, .int .i64 y.port, .int .i64 y.st] 8 _ rfl) (hi x.pp y.pp) e4
  have e2 := fieldStep (f := ⟨"Key", 3, 7, false, "", "", 16⟩) (by decide) (part_int w #[.int .i64 x.sp, .int .u8 x.m0, .int .u8 x.m1, .int .u8 x.m2, .int .u8 x.m3, .int .u8 x.m4, .int .u8 x.m5, .int .i64 x.key, .int .i64 x.pp, .int .i64 x.port, .int .i64 x.st] 7 _ rfl) (part_int w #[.int .i64 y.sp, .int .u8 y.m0, .int .u8 y.m1, .int .u8 y.m2, .int .u8 y.m3, .int .u8 y.m4, .int .u8 y.m5, .int .i64 y.key, .int .i64 y.pp, .int .i64 y.port, .int .i64 y.st] 7 _ rfl) (hi x.key y.key) e3
  have e1 := fieldStep (f := ⟨"Sys", 23, 1, false, "", "", 8⟩) (by decide) (part_mac w #[.int .i64 x.sp, .int .u8 x.m0, .int .u8 x.m1, .int .u8 x.m2, .int .u8 x.m3, .int .u8 x.m4, .int .u8 x.m5, .int .i64 x.key, .int .i64 x.pp, .int .i64 x.port, .int .i64 x.st] 1) (part_mac w #[.int .i64 y.sp, .int .u8 y.m0, .int .u8 y.m1, .int .u8 y.m2, .int .u8 y.m3, .int .u8 y.m4, .int .u8 y.m5, .int .i64 y.key, .int .i64 y.pp, .int .i64 y.port, .int .i64 y.st] 1) hm e2
  have e0 := fieldStep (f := ⟨"SysPrio", 3, 0, false, "", "", 0⟩) (by decide) (part_int w #[.int .i64 x.sp, .int .u8 x.m0, .int .u8 x.m1, .int .u8 x.m2, .int .u8 x.m3, .int .u8 x.m4, .int .u8 x.m5, .int .i64 x.key, .int .i64 x.pp, .int .i64 x.port, .int .i64 x.st] 0 _ rfl) (part_int w #[.int .i64 y.sp, .int .u8 y.m0, .int .u8 y.m1, .int .u8 y.m2, .int .u8 y.m3, .int .u8 y.m4, .int .u8 y.m5, .int .i64 y.key, .int .i64 y.pp, .int .i64 y.port, .int .i64 y.st] 0 _ rfl) (hi x.sp y.sp) e1
  rw [e0]
  simp [eqI, eqM]

theorem run_eqL (w : World) (d : Nat) (a p : Inf) (x : Int) (b q : Inf) (y : Int) : (Op.equalIn (d + 4) 27 (.agg #[.int .i64 a.sp, .int .u8 a.m0, .int .u8 a.m1, .int .u8 a.m2, .int .u8 a.m3, .int .u8 a.m4, .int .u8 a.m5, .int .i64 a.key, .int .i64 a.pp, .int .i64 a.port, .int .i64 a.st, .int .i64 p.sp, .int .u8 p.m0, .int .u8 p.m1, .int .u8 p.m2, .int .u8 p.m3, .int .u8 p.m4, .int .u8 p.m5, .int .i64 p.key, .int .i64 p.pp, .int .i64 p.port, .int .i64 p.st, .int .i64 x]) (.agg #[.int .i64 b.sp, .int .u8 b.m0, .int .u8 b.m1, .int .u8 b.m2, .int .u8 b.m3, .int .u8 b.m4, .int .u8 b.m5, .int .i64 b.key, .int .i64 b.pp, .int .i64 b.port, .int .i64 b.st, .int .i64 q.sp, .int .u8 q.m0, .int .u8 q.m1, .int .u8 q.m2, .int .u8 q.m3, .int .u8 q.m4, .int .u8 q.m5, .int .i64 q.key, .int .i64 q.pp, .int .i64 q.port, .int .i64 q.st, .int .i64 y])).run Try.prog w = .ok (eqL a p x b q y) w := by
  rw [run_equalIn_struct w (d + 3) 27 _ _ fields27 stood27]
  have hfs : (Try.prog.fieldsOf 27).toList = [⟨"Actor", 25, 0, false, "", "", 0⟩, ⟨"Partner", 25, 11, false, "", "", 48⟩, ⟨"Delay", 3, 22, false, "", "", 96⟩] := by
    unfold Program.fieldsOf
    rw [Try.underlying27]
  rw [hfs]
  have e := fieldEnd (d + 3) #[.int .i64 a.sp, .int .u8 a.m0, .int .u8 a.m1, .int .u8 a.m2, .int .u8 a.m3, .int .u8 a.m4, .int .u8 a.m5, .int .i64 a.key, .int .i64 a.pp, .int .i64 a.port, .int .i64 a.st, .int .i64 p.sp, .int .u8 p.m0, .int .u8 p.m1, .int .u8 p.m2, .int .u8 p.m3, .int .u8 p.m4, .int .u8 p.m5, .int .i64 p.key, .int .i64 p.pp, .int .i64 p.port, .int .i64 p.st, .int .i64 x] #[.int .i64 b.sp, .int .u8 b.m0, .int .u8 b.m1, .int .u8 b.m2, .int .u8 b.m3, .int .u8 b.m4, .int .u8 b.m5, .int .i64 b.key, .int .i64 b.pp, .int .i64 b.port, .int .i64 b.st, .int .i64 q.sp, .int .u8 q.m0, .int .u8 q.m1, .int .u8 q.m2, .int .u8 q.m3, .int .u8 q.m4, .int .u8 q.m5, .int .i64 q.key, .int .i64 q.pp, .int .i64 q.port, .int .i64 q.st, .int .i64 y] w
  have e2 := fieldStep (f := ⟨"Delay", 3, 22, false, "", "", 96⟩) (by decide) (part_int w #[.int .i64 a.sp, .int .u8 a.m0, .int .u8 a.m1, .int .u8 a.m2, .int .u8 a.m3, .int .u8 a.m4, .int .u8 a.m5, .int .i64 a.key, .int .i64 a.pp, .int .i64 a.port, .int .i64 a.st, .int .i64 p.sp, .int .u8 p.m0, .int .u8 p.m1, .int .u8 p.m2, .int .u8 p.m3, .int .u8 p.m4, .int .u8 p.m5, .int .i64 p.key, .int .i64 p.pp, .int .i64 p.port, .int .i64 p.st, .int .i64 x] 22 _ rfl) (part_int w #[.int .i64 b.sp, .int .u8 b.m0, .int .u8 b.m1, .int .u8 b.m2, .int .u8 b.m3, .int .u8 b.m4, .int .u8 b.m5, .int .i64 b.key, .int .i64 b.pp, .int .i64 b.port, .int .i64 b.st, .int .i64 q.sp, .int .u8 q.m0, .int .u8 q.m1, .int .u8 q.m2, .int .u8 q.m3, .int .u8 q.m4, .int .u8 q.m5, .int .i64 q.key, .int .i64 q.pp, .int .i64 q.port, .int .i64 q.st, .int .i64 y] 22 _ rfl) (run_equalIn_int (P := Try.prog) w (d + 2) 3 .i64 .i64 x y Try.underlying3) e
  have e1 := fieldStep (f := ⟨"Partner", 25, 11, false, "", "", 48⟩) (by decide) (part_inf w #[.int .i64 a.sp, .int .u8 a.m0, .int .u8 a.m1, .int .u8 a.m2, .int .u8 a.m3, .int .u8 a.m4, .int .u8 a.m5, .int .i64 a.key, .int .i64 a.pp, .int .i64 a.port, .int .i64 a.st, .int .i64 p.sp, .int .u8 p.m0, .int .u8 p.m1, .int .u8 p.m2, .int .u8 p.m3, .int .u8 p.m4, .int .u8 p.m5, .int .i64 p.key, .int .i64 p.pp, .int .i64 p.port, .int .i64 p.st, .int .i64 x] 11) (part_inf w #[.int .i64 b.sp, .int .u8 b.m0, .int .u8 b.m1, .int .u8 b.m2, .int .u8 b.m3, .int .u8 b.m4, .int .u8 b.m5, .int .i64 b.key, .int .i64 b.pp, .int .i64 b.port, .int .i64 b.st, .int .i64 q.sp, .int .u8 q.m0, .int .u8 q.m1, .int .u8 q.m2, .int .u8 q.m3, .int .u8 q.m4, .int .u8 q.m5, .int .i64 q.key, .int .i64 q.pp, .int .i64 q.port, .int .i64 q.st, .int .i64 y] 11) (run_eqI w d p q) e2
  have e0 := fieldStep (f := ⟨"Actor", 25, 0, false, "", "", 0⟩) (by decide) (part_inf w #[.int .i64 a.sp, .int .u8 a.m0, .int .u8 a.m1, .int .u8 a.m2, .int .u8 a.m3, .int .u8 a.m4, .int .u8 a.m5, .int .i64 a.key, .int .i64 a.pp, .int .i64 a.port, .int .i64 a.st, .int .i64 p.sp, .int .u8 p.m0, .int .u8 p.m1, .int .u8 p.m2, .int .u8 p.m3, .int .u8 p.m4, .int .u8 p.m5, .int .i64 p.key, .int .i64 p.pp, .int .i64 p.port, .int .i64 p.st, .int .i64 x] 0) (part_inf w #[.int .i64 b.sp, .int .u8 b.m0, .int .u8 b.m1, .int .u8 b.m2, .int .u8 b.m3, .int .u8 b.m4, .int .u8 b.m5, .int .i64 b.key, .int .i64 b.pp, .int .i64 b.port, .int .i64 b.st, .int .i64 q.sp, .int .u8 q.m0, .int .u8 q.m1, .int .u8 q.m2, .int .u8 q.m3, .int .u8 q.m4, .int .u8 q.m5, .int .i64 q.key, .int .i64 q.pp, .int .i64 q.port, .int .i64 q.st, .int .i64 y] 0) (run_eqI w d a b) e1
  rw [e0]
  simp [eqL]

/-! ### '==' and '!=' at an operation -/
theorem run_eq_op {P : Program} {o : Oper} {a : Act} {w : World} {t t' : TypeId} {x y : Operand} {xs ys : Array Value} {b : Bool} (ho : o.op = .binOp .eql t x y t') (hx : a.eval x = .agg xs) (hy : a.eval y = .agg ys) (hm : P.eqGuardType P.depth t = false)
    (h : (Op.equalIn 10000 t (.agg xs) (.agg ys)).run P w = .ok b w) : (execOp a.eval o).run P w = .ok (.value (.bool b)) w := by
  unfold execOp
  simp only [ho, hx, hy, Sem.run_bind, run_eqGuard_agg (P := P) w .eql t x y xs ys hm, Result.andThen_ok, run_eql_struct, h, Sem.run_pure]
theorem run_ne_op {P : Program} {o : Oper} {a : Act} {w : World} {t t' : TypeId} {x y : Operand} {xs ys : Array Value} {b : Bool} (ho : o.op = .binOp .neq t x y t') (hx : a.eval x = .agg xs) (hy : a.eval y = .agg ys) (hm : P.eqGuardType P.depth t = false)
    (h : (Op.equalIn 10000 t (.agg xs) (.agg ys)).run P w = .ok b w) : (execOp a.eval o).run P w = .ok (.value (.bool (!b))) w := by
  unfold execOp
  simp only [ho, hx, hy, Sem.run_bind, run_eqGuard_agg (P := P) w .neq t x y xs ys hm, Result.andThen_ok, run_neq_struct, h, Sem.run_pure]

/-- An operation whose run is known. -/
theorem quiet_run {P : Program} {o : Oper} {a : Act} {C : World → Prop} {K : Act → Prop} (v : Value) (h : ∀ w, (execOp a.eval o).run P w = .ok (.value v) w) (hk : K (a.put o.dst v)) : o.quiet P a C K :=
  ⟨v, fun w _ => by unfold Oper.quietAt; rw [h w]; exact ⟨rfl, rfl⟩, hk⟩
theorem wpList_run {P : Program} {ops : Array Oper} {rest : List Oper} {o : Oper} {a : Act} {w : World} {Q : Exit → Act → World → Prop} (hgd : Region.wanted o (yielded ops a.tmps) = true) (v : Value) (h : (execOp a.eval o).run P w = .ok (.value v) w)
    (hk : wpList P ops Q rest (a.put o.dst v) w) : wpList P ops Q (o :: rest) a w := by
  unfold wpList
  rw [if_pos hgd]
  exact Or.inl (by unfold Oper.wp; rw [h]; exact hk)
theorem guard25 : Try.prog.eqGuardType Try.prog.depth 25 = false := by kernel_rfl
theorem guard27 : Try.prog.eqGuardType Try.prog.depth 27 = false := by kernel_rfl
end Go.Proofs.Ytooieocfgifpgaa

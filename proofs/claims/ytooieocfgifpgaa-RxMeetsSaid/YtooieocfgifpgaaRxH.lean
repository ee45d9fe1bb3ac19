/-
  One end of a link: plain facts that the statements ask.
-/
import Derived.Test.YtooieocfgifpgaaRxG
namespace Go.Proofs.Ytooieocfgifpgaa
open Go.RowKit Go.WideShapes Go.ChangeShapes
set_option linter.unusedVariables false

theorem open_i64 {w : World} {r : Reach} {base : Nat} {v : Value} (hv : Value.okWide Try.prog w r base 3 v) : ∃ n : Int, v = .int .i64 n ∧ (-9223372036854775808 ≤ n ∧ n ≤ 9223372036854775807) := by
  obtain ⟨n, rfl, hn⟩ : ∃ n, v = .int .i64 n ∧ (Lit.int .i64 n).wf = true := cell_int Try.underlying3 (by simpa [Value.okWide, Try.underlying3] using hv)
  exact ⟨n, rfl, wf_i64 hn⟩
theorem wait0 {x : ES} (h : x.a = A0) : x.wait = 3 := by
  have : hb x.a.st 1 = true := by rw [h]; decide +kernel
  simp [ES.wait, this]
theorem tick_rest {x : ES} (now : Int) (h : x.s = 0 ∨ x.s = 2) : x.tick now = x := by
  unfold ES.tick
  have h1 : (x.s == 1) = false := by simp; omega
  have h3 : (x.s == 3) = false := by simp; omega
  rw [h1, h3]
  simp
theorem tick_early {x : ES} {now : Int} (h : now - x.f < x.wait) : x.tick now = x := by
  unfold ES.tick
  simp [h]
theorem tick_3 {x : ES} {now : Int} (hi : inW 1099511627776 now = true) (h : ¬ now - x.f < x.wait) (hs : x.s = 3) : x.tick now = x.expire now := by
  unfold ES.tick
  rw [if_pos hi, if_neg h, if_pos (by simp [hs])]
theorem tick_1 {x : ES} {now : Int} (hi : inW 1099511627776 now = true) (h : ¬ now - x.f < x.wait) (hs : x.s = 1) : x.tick now = { x with s := 2, p := Inf.zero } := by
  unfold ES.tick
  rw [if_pos hi, if_neg h, if_neg (by simp [hs]), if_pos (by simp [hs])]

theorem run_ne_same {o : Oper} {a : Act} {s t : Operand} {x : Inf} (w : World) (ho : o.op = .binOp .neq 25 s t 25) (hx : a.eval s = .agg #[.int .i64 x.sp, .int .u8 x.m0, .int .u8 x.m1, .int .u8 x.m2, .int .u8 x.m3, .int .u8 x.m4, .int .u8 x.m5, .int .i64 x.key, .int .i64 x.pp, .int .i64 x.port, .int .i64 x.st]) (hy : a.eval t = .agg #[.int .i64 x.sp, .int .u8 x.m0, .int .u8 x.m1, .int .u8 x.m2, .int .u8 x.m3, .int .u8 x.m4, .int .u8 x.m5, .int .i64 x.key, .int .i64 x.pp, .int .i64 x.port, .int .i64 x.st]) : (execOp a.eval o).run Try.prog w = .ok (.value (.bool false)) w := by
  have h := run_ne_op (P := Try.prog) (w := w) ho hx hy guard25 (run_eqI w 9997 x x)
  rw [eqI_self] at h
  exact h
theorem run_eq_same {o : Oper} {a : Act} {s t : Operand} {x : Inf} (w : World) (ho : o.op = .binOp .eql 25 s t 25) (hx : a.eval s = .agg #[.int .i64 x.sp, .int .u8 x.m0, .int .u8 x.m1, .int .u8 x.m2, .int .u8 x.m3, .int .u8 x.m4, .int .u8 x.m5, .int .i64 x.key, .int .i64 x.pp, .int .i64 x.port, .int .i64 x.st]) (hy : a.eval t = .agg #[.int .i64 x.sp, .int .u8 x.m0, .int .u8 x.m1, .int .u8 x.m2, .int .u8 x.m3, .int .u8 x.m4, .int .u8 x.m5, .int .i64 x.key, .int .i64 x.pp, .int .i64 x.port, .int .i64 x.st]) : (execOp a.eval o).run Try.prog w = .ok (.value (.bool true)) w := by
  have h := run_eq_op (P := Try.prog) (w := w) ho hx hy guard25 (run_eqI w 9997 x x)
  rw [eqI_self] at h
  exact h

theorem and8' (p : Int) : (bits .and .i64 p 8 != 0) = hb p 3 := by rw [and8]; cases hb p 3 <;> decide
theorem and2' (p : Int) : (bits .and .i64 p 2 != 0) = hb p 1 := by rw [and2]; cases hb p 1 <;> decide
theorem and128' (p : Int) : (bits .and .i64 p 128 != 0) = hb p 7 := by rw [and_bit bit128 (by decide) (by decide) p]; cases hb p 7 <;> decide
theorem and4e (p : Int) : (bits .and .i64 p 4 == 0) = !hb p 2 := by rw [and4]; cases hb p 2 <;> decide
theorem or_andNot8 (p : Int) : bits .or .i64 (bits .andNot .i64 p 8) 8 = bits .or .i64 p 8 := by
  refine hb_ext (bits_range _ _ _) (bits_range _ _ _) fun k hk => ?_
  rw [hb_or, hb_or, hb_andNot _ _ _ hk]
  cases hb p k <;> cases hb 8 k <;> rfl
theorem mom_of {now : Int} (h0 : 0 ≤ now) (h1 : now ≤ 1099511627776) : inW 1099511627776 now = true ∧ momE now = 0 := by
  have h := (inW_iff 1099511627776 now).2 ⟨h0, h1⟩
  exact ⟨h, by unfold momE; rw [h]; rfl⟩
end Go.Proofs.Ytooieocfgifpgaa

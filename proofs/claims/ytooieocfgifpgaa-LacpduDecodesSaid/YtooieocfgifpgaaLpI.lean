/-
  The laws' own first step; how infos and what links tell open as arguments.
-/
import Derived.Test.YtooieocfgifpgaaLpH
import Derived.Lib.BufferRead
namespace Go.Proofs.Ytooieocfgifpgaa
open Go.RowKit Go.WideShapes Go.ChangeShapes
set_option linter.unusedVariables false

/-- 'string(b)' of such a row. -/
theorem OwnB.str {w : World} {base g k c : Nat} {ys : List UInt8} (h : OwnB w base g k c ys) (h0 : 0 < k) : (convert 29 9 (.slice (some ⟨g, 0, none⟩) k c)).run Try.prog w = .ok (.string ⟨ys.toArray⟩) w := by
  have hl := h.len
  refine convert_own Try.underlying29 Try.underlying5 Try.underlying9 (l := ys) (base := base) ?_ (by omega)
  rw [hl]
  exact h
theorem str_nil (w : World) : (convert 29 9 (.slice none 0 0)).run Try.prog w = .ok (.string ⟨#[]⟩) w := Go.Lib.run_convert_nil_bytes w 29 9 5 0 Try.underlying29 Try.underlying5 Try.underlying9

theorem awake_any (w : World) : Calls Try.prog 14 #[] w fun e w' => e = .returned (.bool true) ∧ Below w.heap.size w w' := by
  go_enter Try.func14, Try.ntmps14
  go_wp2_with fail
  refine (encode_any ⟨0, 0, 0, 0, 0, 0, 0, 0, 0, 258, 61⟩ ⟨0, 0, 0, 0, 0, 0, 0, 0, 0, 0, 0⟩ 0 w ⟨by decide, by decide, by decide, by decide, by decide, by decide, by decide, by decide, by decide, by decide, by decide⟩ ⟨by decide, by decide, by decide, by decide, by decide, by decide, by decide, by decide, by decide, by decide, by decide⟩).mono ?_
  rintro e w1 (⟨-, g, c, rfl, hown, hb⟩ | ⟨h, -, -⟩)
  rotate_left
  · exact absurd h (by decide)
  have c3 : w1.cell? ⟨g, 3, none⟩ = some (.int .u8 20) := hown.cell 3 (by rw [hown.len]; decide)
  have c16 : w1.cell? ⟨g, 16, none⟩ = some (.int .u8 1) := hown.cell 16 (by rw [hown.len]; decide)
  have c17 : w1.cell? ⟨g, 17, none⟩ = some (.int .u8 2) := hown.cell 17 (by rw [hown.len]; decide)
  have c18 : w1.cell? ⟨g, 18, none⟩ = some (.int .u8 61) := hown.cell 18 (by rw [hown.len]; decide)
  have HB := hide hb
  clear hown hb
  go_wp2_with fail
  go_ret
  exact ⟨rfl, HB.out⟩

theorem readable25 : Try.prog.readableRec 25 = true ∧ 25 < Try.prog.types.size := ⟨by kernel_rfl, of_decide_eq_true (by kernel_rfl)⟩
theorem readable27 : Try.prog.readableRec 27 = true ∧ 27 < Try.prog.types.size := ⟨by kernel_rfl, of_decide_eq_true (by kernel_rfl)⟩
theorem readable29 : Try.prog.readableRec 29 = true ∧ 29 < Try.prog.types.size := ⟨by kernel_rfl, of_decide_eq_true (by kernel_rfl)⟩
theorem readable3 : Try.prog.readableRec 3 = true ∧ 3 < Try.prog.types.size := ⟨by kernel_rfl, of_decide_eq_true (by kernel_rfl)⟩
theorem readable41 : Try.prog.readableRec 41 = true ∧ 41 < Try.prog.types.size := ⟨by kernel_rfl, of_decide_eq_true (by kernel_rfl)⟩
theorem cells25 : Try.prog.cellsOf 25 = 11 := by kernel_rfl
theorem cells27 : Try.prog.cellsOf 27 = 23 := by kernel_rfl
theorem cellTypes25 : Try.prog.cellTypes Try.prog.depth 25 = some [3, 5, 5, 5, 5, 5, 5, 3, 3, 3, 3] := by kernel_rfl
theorem cellTypes27 : Try.prog.cellTypes Try.prog.depth 27 = some [3, 5, 5, 5, 5, 5, 5, 3, 3, 3, 3, 3, 5, 5, 5, 5, 5, 5, 3, 3, 3, 3, 3] := by kernel_rfl
theorem array11 {α : Type} (a : Array α) (h : a.size = 11) : ∃ x0 x1 x2 x3 x4 x5 x6 x7 x8 x9 y0, a = #[x0, x1, x2, x3, x4, x5, x6, x7, x8, x9, y0] := by
  obtain ⟨l⟩ := a
  match l, h with
  | [x0, x1, x2, x3, x4, x5, x6, x7, x8, x9, y0], _ => exact ⟨x0, x1, x2, x3, x4, x5, x6, x7, x8, x9, y0, rfl⟩
theorem array23 {α : Type} (a : Array α) (h : a.size = 23) : ∃ x0 x1 x2 x3 x4 x5 x6 x7 x8 x9 y0 y1 y2 y3 y4 y5 y6 y7 y8 y9 z0 z1 z2, a = #[x0, x1, x2, x3, x4, x5, x6, x7, x8, x9, y0, y1, y2, y3, y4, y5, y6, y7, y8, y9, z0, z1, z2] := by
  obtain ⟨l⟩ := a
  match l, h with
  | [x0, x1, x2, x3, x4, x5, x6, x7, x8, x9, y0, y1, y2, y3, y4, y5, y6, y7, y8, y9, z0, z1, z2], _ => exact ⟨x0, x1, x2, x3, x4, x5, x6, x7, x8, x9, y0, y1, y2, y3, y4, y5, y6, y7, y8, y9, z0, z1, z2, rfl⟩

/-- A row of cells as an info's. -/
theorem row_inf {w : World} {r : Reach} {base t : Nat} {ts : List TypeId} {cs : Array Value} (hts : Try.prog.cellTypes Try.prog.depth t = some ts) (h : Row.okWide Try.prog w r base t cs) (o : Nat) (hs : o + 11 ≤ cs.size)
    (h0 : ts[o]? = some 3) (h1 : ts[o + 1]? = some 5) (h2 : ts[o + 2]? = some 5) (h3 : ts[o + 3]? = some 5) (h4 : ts[o + 4]? = some 5) (h5 : ts[o + 5]? = some 5) (h6 : ts[o + 6]? = some 5) (h7 : ts[o + 7]? = some 3) (h8 : ts[o + 8]? = some 3) (h9 : ts[o + 9]? = some 3) (h10 : ts[o + 10]? = some 3) :
    ∃ x : Inf, x.wf ∧ cs[o]? = some (.int .i64 x.sp) ∧ cs[o + 1]? = some (.int .u8 x.m0) ∧ cs[o + 2]? = some (.int .u8 x.m1) ∧ cs[o + 3]? = some (.int .u8 x.m2) ∧ cs[o + 4]? = some (.int .u8 x.m3) ∧ cs[o + 5]? = some (.int .u8 x.m4) ∧ cs[o + 6]? = some (.int .u8 x.m5) ∧
      cs[o + 7]? = some (.int .i64 x.key) ∧ cs[o + 8]? = some (.int .i64 x.pp) ∧ cs[o + 9]? = some (.int .i64 x.port) ∧ cs[o + 10]? = some (.int .i64 x.st) := by
  obtain ⟨n0, e0, b0⟩ := row_int hts h h0 Try.underlying3 (by omega)
  obtain ⟨n1, e1, b1⟩ := row_int hts h h1 Try.underlying5 (by omega)
  obtain ⟨n2, e2, b2⟩ := row_int hts h h2 Try.underlying5 (by omega)
  obtain ⟨n3, e3, b3⟩ := row_int hts h h3 Try.underlying5 (by omega)
  obtain ⟨n4, e4, b4⟩ := row_int hts h h4 Try.underlying5 (by omega)
  obtain ⟨n5, e5, b5⟩ := row_int hts h h5 Try.underlying5 (by omega)
  obtain ⟨n6, e6, b6⟩ := row_int hts h h6 Try.underlying5 (by omega)
  obtain ⟨n7, e7, b7⟩ := row_int hts h h7 Try.underlying3 (by omega)
  obtain ⟨n8, e8, b8⟩ := row_int hts h h8 Try.underlying3 (by omega)
  obtain ⟨n9, e9, b9⟩ := row_int hts h h9 Try.underlying3 (by omega)
  obtain ⟨n10, e10, b10⟩ := row_int hts h h10 Try.underlying3 (by omega)
  exact ⟨⟨n0, n1, n2, n3, n4, n5, n6, n7, n8, n9, n10⟩, ⟨wf_i64 b0, wf_u8 b1, wf_u8 b2, wf_u8 b3, wf_u8 b4, wf_u8 b5, wf_u8 b6, wf_i64 b7, wf_i64 b8, wf_i64 b9, wf_i64 b10⟩, e0, e1, e2, e3, e4, e5, e6, e7, e8, e9, e10⟩

theorem open_inf {w : World} {r : Reach} {base : Nat} {v : Value} (h : Value.okWide Try.prog w r base 25 v) : ∃ x : Inf, v = .agg #[.int .i64 x.sp, .int .u8 x.m0, .int .u8 x.m1, .int .u8 x.m2, .int .u8 x.m3, .int .u8 x.m4, .int .u8 x.m5, .int .i64 x.key, .int .i64 x.pp, .int .i64 x.port, .int .i64 x.st] ∧ x.wf := by
  simp only [Value.okWide, Try.underlying25] at h
  obtain ⟨cs, rfl, hsz, hrow⟩ := h
  rw [cells25] at hsz
  obtain ⟨x, hx, e0, e1, e2, e3, e4, e5, e6, e7, e8, e9, e10⟩ := row_inf cellTypes25 hrow 0 (by omega) rfl rfl rfl rfl rfl rfl rfl rfl rfl rfl rfl
  obtain ⟨c0, c1, c2, c3, c4, c5, c6, c7, c8, c9, c10, rfl⟩ := array11 cs hsz
  simp at e0 e1 e2 e3 e4 e5 e6 e7 e8 e9 e10
  subst e0 e1 e2 e3 e4 e5 e6 e7 e8 e9 e10
  exact ⟨x, rfl, hx⟩
theorem open_lacp {w : World} {r : Reach} {base : Nat} {v : Value} (h : Value.okWide Try.prog w r base 27 v) : ∃ (a p : Inf) (d : Int), v = .agg #[.int .i64 a.sp, .int .u8 a.m0, .int .u8 a.m1, .int .u8 a.m2, .int .u8 a.m3, .int .u8 a.m4, .int .u8 a.m5, .int .i64 a.key, .int .i64 a.pp, .int .i64 a.port, .int .i64 a.st, .int .i64 p.sp, .int .u8 p.m0, .int .u8 p.m1, .int .u8 p.m2, .int .u8 p.m3, .int .u8 p.m4, .int .u8 p.m5, .int .i64 p.key, .int .i64 p.pp, .int .i64 p.port, .int .i64 p.st, .int .i64 d] ∧ a.wf ∧ p.wf ∧ (-9223372036854775808 ≤ d ∧ d ≤ 9223372036854775807) := by
  simp only [Value.okWide, Try.underlying27] at h
  obtain ⟨cs, rfl, hsz, hrow⟩ := h
  rw [cells27] at hsz
  obtain ⟨x, hx, e0, e1, e2, e3, e4, e5, e6, e7, e8, e9, e10⟩ := row_inf cellTypes27 hrow 0 (by omega) rfl rfl rfl rfl rfl rfl rfl rfl rfl rfl rfl
  obtain ⟨y, hy, f0, f1, f2, f3, f4, f5, f6, f7, f8, f9, f10⟩ := row_inf cellTypes27 hrow 11 (by omega) rfl rfl rfl rfl rfl rfl rfl rfl rfl rfl rfl
  obtain ⟨d, e, hd⟩ := row_int cellTypes27 hrow (i := 22) rfl Try.underlying3 (by omega)
  obtain ⟨c0, c1, c2, c3, c4, c5, c6, c7, c8, c9, d0, d1, d2, d3, d4, d5, d6, d7, d8, d9, z0, z1, z2, rfl⟩ := array23 cs hsz
  simp at e0 e1 e2 e3 e4 e5 e6 e7 e8 e9 e10 f0 f1 f2 f3 f4 f5 f6 f7 f8 f9 f10 e
  subst e0 e1 e2 e3 e4 e5 e6 e7 e8 e9 e10 f0 f1 f2 f3 f4 f5 f6 f7 f8 f9 f10 e
  exact ⟨x, y, d, rfl, hx, hy, wf_i64 hd⟩
end Go.Proofs.Ytooieocfgifpgaa

/-
  How the arguments of the mux's laws open: a slice of steps, a step, a number; what the rows need.
-/
import Derived.Test.YtpkpgefmkamaiaaMuxG
import Derived.Test.YtpkpgefmkamaiaaFlat
import Derived.Test.YtpkpgefmkamaiaaRows
namespace Go.Proofs.Ytpkpgefmkamaiaa
open Go.RowKit Go.WideShapes Go.ChangeShapes
set_option linter.unusedVariables false

theorem readable22 : Try.prog.readableRec 22 = true ∧ 22 < Try.prog.types.size := by refine ⟨by kernel_rfl, ?_⟩; exact of_decide_eq_true (by kernel_rfl)
theorem readable32 : Try.prog.readableRec 32 = true ∧ 32 < Try.prog.types.size := by refine ⟨by kernel_rfl, ?_⟩; exact of_decide_eq_true (by kernel_rfl)
theorem readable3 : Try.prog.readableRec 3 = true ∧ 3 < Try.prog.types.size := by refine ⟨by kernel_rfl, ?_⟩; exact of_decide_eq_true (by kernel_rfl)
theorem kind0 : cellKind Try.prog 5 32 0 = some .bool := by kernel_rfl
theorem kind1 : cellKind Try.prog 5 32 1 = some (.int .i64) := by kernel_rfl
theorem kind2 : cellKind Try.prog 5 32 2 = some (.int .i64) := by kernel_rfl
theorem cells32 : Try.prog.cellsOf 32 = 3 := by kernel_rfl
theorem cellTypes32 : Try.prog.cellTypes Try.prog.depth 32 = some [4, 3, 3] := by kernel_rfl

instance : Inhabited St := ⟨⟨false, 0, 0⟩⟩

theorem open_steps {H : Type} {enc : TypeId × Value → H} {w : World} {r : Reach} {base : Nat} {v : Value} {d : DataW H} {ps : List MemPlace} (hv : Value.okWide Try.prog w r base 22 v)
    (hT : DataW.Trod enc Try.prog w 0 (fun _ => true) true 22 v d ps) : ∃ A n cap L, v = .slice A n cap ∧ StepsAt w w.heap.size A n L := by
  obtain ⟨A, n, cap, rfl, hn, h⟩ := open_flats Try.underlying22 hv hT
  rcases h with rfl | ⟨b, o, rfl, h⟩
  · exact ⟨A, 0, cap, default, rfl, hn, fun i hi => by omega⟩
  · rw [cells32] at h
    obtain ⟨L, hL⟩ := Go.Deep.choose_lt (α := St) (n := n) (p := fun i x => w.cell? ⟨b, o + i * 3, none⟩ = some (.bool x.sel) ∧ w.cell? ⟨b, o + i * 3 + 1, none⟩ = some (.int .i64 x.p) ∧ w.cell? ⟨b, o + i * 3 + 2, none⟩ = some (.int .i64 x.now) ∧ x.ok)
      (fun i hi => by
        obtain ⟨u0, h0, e0, rfl⟩ := h i hi 5 0 _ (by omega) kind0
        obtain ⟨u1, h1, e1, rfl, k1⟩ := h i hi 5 1 _ (by omega) kind1
        obtain ⟨u2, h2, e2, rfl, k2⟩ := h i hi 5 2 _ (by omega) kind2
        exact ⟨⟨e0, e1, e2⟩, h0, h1, h2, wf_i64 k1, wf_i64 k2⟩)
    exact ⟨_, n, cap, L, rfl, hn, fun i hi => ⟨b, o, rfl, cell_lt (hL i hi).1, hL i hi⟩⟩

theorem array3 {α : Type} (a : Array α) (h : a.size = 3) : ∃ x0 x1 x2, a = #[x0, x1, x2] := by
  obtain ⟨l⟩ := a
  match l, h with
  | [x0, x1, x2], _ => exact ⟨x0, x1, x2, rfl⟩

theorem open_step {w : World} {r : Reach} {base : Nat} {v : Value} (hv : Value.okWide Try.prog w r base 32 v) : ∃ x : St, v = .agg #[.bool x.sel, .int .i64 x.p, .int .i64 x.now] ∧ x.ok := by
  simp only [Value.okWide, Try.underlying32] at hv
  obtain ⟨cs, rfl, hsz, hrow⟩ := hv
  rw [cells32] at hsz
  obtain ⟨c0, c1, c2, rfl⟩ := array3 cs hsz
  obtain ⟨n1, e1, b1⟩ := row_int cellTypes32 hrow (i := 1) rfl Try.underlying3 (by simp)
  obtain ⟨n2, e2, b2⟩ := row_int cellTypes32 hrow (i := 2) rfl Try.underlying3 (by simp)
  obtain ⟨ts, h1, _, h3⟩ := hrow
  obtain rfl : [4, 3, 3] = ts := by rw [cellTypes32] at h1; injection h1
  obtain ⟨u, hu, hc⟩ := h3 0 c0 rfl
  simp at hu
  subst hu
  simp at e1 e2
  subst e1 e2
  cases c0 <;> simp [Cell.okWide, Cell.ok, Try.underlying4] at hc
  exact ⟨⟨_, n1, n2⟩, rfl, wf_i64 b1, wf_i64 b2⟩

theorem open_i64 {w : World} {r : Reach} {base : Nat} {v : Value} (hv : Value.okWide Try.prog w r base 3 v) : ∃ n : Int, v = .int .i64 n ∧ (-9223372036854775808 ≤ n ∧ n ≤ 9223372036854775807) := by
  obtain ⟨n, rfl, hw⟩ := cell_int (w := w) (r := r) (base := base) Try.underlying3 (by simpa [Value.okWide, Try.underlying3] using hv)
  exact ⟨n, rfl, wf_i64 hw⟩
end Go.Proofs.Ytpkpgefmkamaiaa

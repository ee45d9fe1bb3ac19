/-
  Proved: MacNumbers: the address of any number is the reference's, if it is one, and so is which of two addresses is less; the law answers true at every input.
  No condition.
-/
import Derived.Test.YtgklokpjfnpabaaMacD
namespace Go.Proofs.Ytgklokpjfnpabaa
open Go.RowKit Go.ChangeShapes Go.WideShapes Go.ChangeAt
set_option linter.unusedVariables false

theorem eq6_same (z0 z1 z2 z3 z4 z5 : Int) (w : World) : (Op.equalIn 10000 23 (.agg #[.int .u8 z0, .int .u8 z1, .int .u8 z2, .int .u8 z3, .int .u8 z4, .int .u8 z5]) (.agg #[.int .u8 z0, .int .u8 z1, .int .u8 z2, .int .u8 z3, .int .u8 z4, .int .u8 z5])).run Try.prog w = .ok true w := by
  obtain ⟨i0, hi, -, -, -⟩ := info_parts info5
  rw [run_eq6 (P := Try.prog) (w := w) (d := 9998) (t := 23) Try.underlying23 Try.underlying5 hi cells5 z0 z1 z2 z3 z4 z5 z0 z1 z2 z3 z4 z5]
  simp

set_option maxHeartbeats 2000000 in
theorem numbers_walk (n : Int) (x0 x1 x2 x3 x4 x5 y0 y1 y2 y3 y4 y5 z0 z1 z2 z3 z4 z5 f : Int) (w : World) (hx0 : 0 ≤ x0 ∧ x0 < 256) (hx1 : 0 ≤ x1 ∧ x1 < 256) (hx2 : 0 ≤ x2 ∧ x2 < 256) (hx3 : 0 ≤ x3 ∧ x3 < 256) (hx4 : 0 ≤ x4 ∧ x4 < 256) (hx5 : 0 ≤ x5 ∧ x5 < 256) (hy0 : 0 ≤ y0 ∧ y0 < 256) (hy1 : 0 ≤ y1 ∧ y1 < 256) (hy2 : 0 ≤ y2 ∧ y2 < 256) (hy3 : 0 ≤ y3 ∧ y3 < 256) (hy4 : 0 ≤ y4 ∧ y4 < 256) (hy5 : 0 ≤ y5 ∧ y5 < 256)
    (H1 : ∀ u, Calls Try.prog 20 #[.int .u64 n] u fun e w' => e = .returned (.tuple #[.agg #[.int .u8 z0, .int .u8 z1, .int .u8 z2, .int .u8 z3, .int .u8 z4, .int .u8 z5], .int .i64 f]) ∧ Below u.heap.size u w')
    (H2 : ∀ u, Calls Try.prog 21 #[.int .u64 n] u fun e w' => e = .returned (.tuple #[.agg #[.int .u8 z0, .int .u8 z1, .int .u8 z2, .int .u8 z3, .int .u8 z4, .int .u8 z5], .int .i64 f]) ∧ Below u.heap.size u w') :
    Calls Try.prog 6 #[.int .u64 n, .agg #[.int .u8 x0, .int .u8 x1, .int .u8 x2, .int .u8 x3, .int .u8 x4, .int .u8 x5], .agg #[.int .u8 y0, .int .u8 y1, .int .u8 y2, .int .u8 y3, .int .u8 y4, .int .u8 y5]] w fun e w' => e = .returned (.bool true) ∧ Below w.heap.size w w' := by
  have HC1 := hide (fun u => compare_any x0 x1 x2 x3 x4 x5 y0 y1 y2 y3 y4 y5 u hx0 hx1 hx2 hx3 hx4 hx5 hy0 hy1 hy2 hy3 hy4 hy5)
  have HC2 := hide (fun u => refCompare_any x0 x1 x2 x3 x4 x5 y0 y1 y2 y3 y4 y5 u hx0 hx1 hx2 hx3 hx4 hx5 hy0 hy1 hy2 hy3 hy4 hy5)
  have hq := eq6_same z0 z1 z2 z3 z4 z5
  have K1 := hide H1
  have K2 := hide H2
  clear H1 H2 hx0 hx1 hx2 hx3 hx4 hx5 hy0 hy1 hy2 hy3 hy4 hy5
  go_enter Try.func6, Try.ntmps6
  go_wp2_with fail
  refine (awake_any _).mono ?_
  rintro e w1 ⟨rfl, hb1⟩
  have hs1 : w.heap.size + 1 < w1.heap.size := by have := hb1.size; simp at this; omega
  have a1 : ∀ o, w1.cell? ⟨w.heap.size, o, none⟩ = ((w.alloc (.cells #[.int .u8 x0, .int .u8 x1, .int .u8 x2, .int .u8 x3, .int .u8 x4, .int .u8 x5] 23)).alloc (.cells #[.int .u8 y0, .int .u8 y1, .int .u8 y2, .int .u8 y3, .int .u8 y4, .int .u8 y5] 23)).cell? ⟨w.heap.size, o, none⟩ := fun o => hb1.cell (by simp; omega)
  have b1 : ∀ o, w1.cell? ⟨w.heap.size + 1, o, none⟩ = ((w.alloc (.cells #[.int .u8 x0, .int .u8 x1, .int .u8 x2, .int .u8 x3, .int .u8 x4, .int .u8 x5] 23)).alloc (.cells #[.int .u8 y0, .int .u8 y1, .int .u8 y2, .int .u8 y3, .int .u8 y4, .int .u8 y5] 23)).cell? ⟨w.heap.size + 1, o, none⟩ := fun o => hb1.cell (by simp)
  have A1 := hide a1; have B1 := hide b1
  clear a1 b1
  go_wp2_with fail
  refine (K1.out _).mono ?_
  rintro e w2 ⟨rfl, hb2⟩
  have hs2 : w1.heap.size ≤ w2.heap.size := hb2.size
  go_wp2_with fail
  refine (K2.out _).mono ?_
  rintro e w3 ⟨rfl, hb3⟩
  have hs3 : w2.heap.size < w3.heap.size := by have := hb3.size; simp at this; omega
  have c3 : ∀ o, w3.cell? ⟨w2.heap.size, o, none⟩ = (w2.alloc (.cells #[.int .u8 z0, .int .u8 z1, .int .u8 z2, .int .u8 z3, .int .u8 z4, .int .u8 z5] 23)).cell? ⟨w2.heap.size, o, none⟩ := fun o => hb3.cell (by simp)
  have C3 := hide c3; clear c3
  have a3 : ∀ o, w3.cell? ⟨w.heap.size, o, none⟩ = ((w.alloc (.cells #[.int .u8 x0, .int .u8 x1, .int .u8 x2, .int .u8 x3, .int .u8 x4, .int .u8 x5] 23)).alloc (.cells #[.int .u8 y0, .int .u8 y1, .int .u8 y2, .int .u8 y3, .int .u8 y4, .int .u8 y5] 23)).cell? ⟨w.heap.size, o, none⟩ := fun o =>
    (hb3.cell (by show w.heap.size < _; simp; omega)).trans ((World.cell?_alloc_lt w2 _ ⟨w.heap.size, o, none⟩ (by show w.heap.size < _; omega)).trans ((hb2.cell (by show w.heap.size < _; omega)).trans (A1.out o)))
  have b3 : ∀ o, w3.cell? ⟨w.heap.size + 1, o, none⟩ = ((w.alloc (.cells #[.int .u8 x0, .int .u8 x1, .int .u8 x2, .int .u8 x3, .int .u8 x4, .int .u8 x5] 23)).alloc (.cells #[.int .u8 y0, .int .u8 y1, .int .u8 y2, .int .u8 y3, .int .u8 y4, .int .u8 y5] 23)).cell? ⟨w.heap.size + 1, o, none⟩ := fun o =>
    (hb3.cell (by show w.heap.size + 1 < _; simp; omega)).trans ((World.cell?_alloc_lt w2 _ ⟨w.heap.size + 1, o, none⟩ (by show w.heap.size + 1 < _; omega)).trans ((hb2.cell (by show w.heap.size + 1 < _; omega)).trans (B1.out o)))
  have A3 := hide a3; have B3 := hide b3
  clear a3 b3
  go_wp2_with fail
  refine wp_region_class (by kernel_rfl) (by kernel_rfl) (fun C hC hS hN => ?_)
  have ha : ∀ (u : Of C) (o : Nat), u.w.cell? ⟨w.heap.size, o, none⟩ = ((w.alloc (.cells #[.int .u8 x0, .int .u8 x1, .int .u8 x2, .int .u8 x3, .int .u8 x4, .int .u8 x5] 23)).alloc (.cells #[.int .u8 y0, .int .u8 y1, .int .u8 y2, .int .u8 y3, .int .u8 y4, .int .u8 y5] 23)).cell? ⟨w.heap.size, o, none⟩ := fun u o =>
    ((hC _ u.ok).cell (by show w.heap.size < _; simp; omega)).trans ((World.cell?_alloc_lt w3 _ ⟨w.heap.size, o, none⟩ (by show w.heap.size < _; omega)).trans (A3.out o))
  have hb : ∀ (u : Of C) (o : Nat), u.w.cell? ⟨w.heap.size + 1, o, none⟩ = ((w.alloc (.cells #[.int .u8 x0, .int .u8 x1, .int .u8 x2, .int .u8 x3, .int .u8 x4, .int .u8 x5] 23)).alloc (.cells #[.int .u8 y0, .int .u8 y1, .int .u8 y2, .int .u8 y3, .int .u8 y4, .int .u8 y5] 23)).cell? ⟨w.heap.size + 1, o, none⟩ := fun u o =>
    ((hC _ u.ok).cell (by show w.heap.size + 1 < _; simp; omega)).trans ((World.cell?_alloc_lt w3 _ ⟨w.heap.size + 1, o, none⟩ (by show w.heap.size + 1 < _; omega)).trans (B3.out o))
  have hc : ∀ (u : Of C) (o : Nat), u.w.cell? ⟨w2.heap.size, o, none⟩ = (w2.alloc (.cells #[.int .u8 z0, .int .u8 z1, .int .u8 z2, .int .u8 z3, .int .u8 z4, .int .u8 z5] 23)).cell? ⟨w2.heap.size, o, none⟩ := fun u o =>
    ((hC _ u.ok).cell (by show w2.heap.size < _; simp; omega)).trans ((World.cell?_alloc_lt w3 _ ⟨w2.heap.size, o, none⟩ hs3).trans (C3.out o))
  have hd : ∀ (u : Of C) (o : Nat), u.w.cell? ⟨w3.heap.size, o, none⟩ = (w3.alloc (.cells #[.int .u8 z0, .int .u8 z1, .int .u8 z2, .int .u8 z3, .int .u8 z4, .int .u8 z5] 23)).cell? ⟨w3.heap.size, o, none⟩ := fun u o =>
    (hC _ u.ok).cell (by simp)
  have HS := hide hS; have HC := hide hC; clear hS hC
  repeat (go_big_quiet_step ((first
    | (go_at_call 19; exact Calls.of_class HS.out (HC1.out _))
    | (go_at_call 22; exact Calls.of_class HS.out (HC2.out _)))))
  refine wpQuiet_nil ?_
  intro u hu
  clear ha hb hc hd
  go_wp2
  go_ret
  exact ⟨rfl, (((Below.refl w.heap.size w).alloc (Nat.le_refl _) _).alloc (by simp) _).trans ((hb1.mono (by simp; omega)).trans ((hb2.mono (by omega)).trans ((((Below.refl _ w2).alloc (Nat.le_refl _) _).mono (by omega)).trans ((hb3.mono (by simp; omega)).trans ((((Below.refl _ w3).alloc (Nat.le_refl _) _).mono (by omega)).trans (hu.mono (by simp; omega)))))))⟩

theorem macNumbers_any (n : Int) (x0 x1 x2 x3 x4 x5 y0 y1 y2 y3 y4 y5 : Int) (w : World) (hn : 0 ≤ n ∧ n ≤ 18446744073709551615) (hx0 : 0 ≤ x0 ∧ x0 < 256) (hx1 : 0 ≤ x1 ∧ x1 < 256) (hx2 : 0 ≤ x2 ∧ x2 < 256) (hx3 : 0 ≤ x3 ∧ x3 < 256) (hx4 : 0 ≤ x4 ∧ x4 < 256) (hx5 : 0 ≤ x5 ∧ x5 < 256) (hy0 : 0 ≤ y0 ∧ y0 < 256) (hy1 : 0 ≤ y1 ∧ y1 < 256) (hy2 : 0 ≤ y2 ∧ y2 < 256) (hy3 : 0 ≤ y3 ∧ y3 < 256) (hy4 : 0 ≤ y4 ∧ y4 < 256) (hy5 : 0 ≤ y5 ∧ y5 < 256) :
    Calls Try.prog 6 #[.int .u64 n, .agg #[.int .u8 x0, .int .u8 x1, .int .u8 x2, .int .u8 x3, .int .u8 x4, .int .u8 x5], .agg #[.int .u8 y0, .int .u8 y1, .int .u8 y2, .int .u8 y3, .int .u8 y4, .int .u8 y5]] w fun e w' => e = .returned (.bool true) ∧ Below w.heap.size w w' := by
  by_cases h : n < 281474976710656
  · exact numbers_walk n x0 x1 x2 x3 x4 x5 y0 y1 y2 y3 y4 y5 _ _ _ _ _ _ 0 w hx0 hx1 hx2 hx3 hx4 hx5 hy0 hy1 hy2 hy3 hy4 hy5 (fun u => of_yes n u hn.1 h) (fun u => refOf_yes n u hn.1 h)
  · exact numbers_walk n x0 x1 x2 x3 x4 x5 y0 y1 y2 y3 y4 y5 _ _ _ _ _ _ 1 w hx0 hx1 hx2 hx3 hx4 hx5 hy0 hy1 hy2 hy3 hy4 hy5 (fun u => of_no n u (by omega) hn.2) (fun u => refOf_no n u (by omega) hn.2)

set_option maxRecDepth 100000 in
theorem macNumbers_lifted (os : Os) (started : os.Started) (H : Type) (enc : TypeId × Value → H) :
    ReturnsInHanded {} Try.checked os 6 .any (Rows.macNumbersSpec.pre6 enc Try.prog Try.f6 Rows.macNumbersRow.domain false) (Rows.macNumbersSpec.post enc Try.prog Try.f6 false true false false) := by
  refine returnsInHanded_of_change (C := Try.checked) own started (by kernel_rfl) Try.func6
    (ChangeSpec.witness6 (enc := enc) (C := Try.checked) false ⟨#[], #[.int .u64 0, .agg #[.int .u8 0, .int .u8 0, .int .u8 0, .int .u8 0, .int .u8 0, .int .u8 0], .agg #[.int .u8 0, .int .u8 0, .int .u8 0, .int .u8 0, .int .u8 0, .int .u8 0]], []⟩ 8 (by kernel_rfl) (by kernel_rfl) (by kernel_rfl) (by kernel_rfl)) ?_
  intro W base args ds gs before hval0 hW hcnd _
  have hval : ∀ (j : Nat) t v, Try.f6.params[j]? = some t → args[j]? = some v → Value.okWide Try.prog W .any base t v := hval0
  have hW' : DataW.Whole enc Try.prog Try.f6.params.toList Rows.macNumbersSpec.vars false W args.toList ds gs before := hW
  have hlen : args.toList.length = Try.f6.params.toList.length ∧ ds.length = Try.f6.params.toList.length := by
    obtain ⟨p, q, hA, _⟩ := hW'
    exact trodAll_len _ _ _ _ hA
  rw [Try.params6] at hval hlen
  obtain ⟨p0, p1, p2, rfl⟩ := args3 args hlen.1
  obtain ⟨d0, d1, d2, rfl⟩ := list3 ds hlen.2
  obtain rfl : gs = [] := by
    obtain ⟨p, q, _, hV, _⟩ := hW'
    exact (trodVars_none hV).1
  obtain ⟨n, rfl, wn⟩ : ∃ n, p0 = .int .u64 n ∧ (Lit.int .u64 n).wf = true := cell_int Try.underlying26 (by simpa [Value.okWide, Try.underlying26] using hval 0 26 p0 rfl rfl)
  have hn := wf_u64 wn
  obtain ⟨x0, x1, x2, x3, x4, x5, rfl, hx0, hx1, hx2, hx3, hx4, hx5⟩ := open_mac Try.underlying23 Try.underlying5 cells23 cellTypes23 (hval 1 23 p1 rfl rfl)
  obtain ⟨y0, y1, y2, y3, y4, y5, rfl, hy0, hy1, hy2, hy3, hy4, hy5⟩ := open_mac Try.underlying23 Try.underlying5 cells23 cellTypes23 (hval 2 23 p2 rfl rfl)
  refine (macNumbers_any n x0 x1 x2 x3 x4 x5 y0 y1 y2 y3 y4 y5 W hn hx0 hx1 hx2 hx3 hx4 hx5 hy0 hy1 hy2 hy3 hy4 hy5).mono fun e W' ⟨he, hb⟩ => ?_
  subst he
  have hp : ∀ t ∈ Try.f6.params.toList, Try.prog.readableRec t = true ∧ t < Try.prog.types.size := by
    rw [Try.params6]
    intro t ht
    simp at ht
    rcases ht with rfl | rfl
    all_goals first | exact readable23 | exact readable26
  have hpost := law_post (enc := enc) (P := Try.prog) (f := Try.f6) (s := Rows.macNumbersSpec) (tb := 4) (W' := W') laidOut hW' rfl (by kernel_rfl) Try.underlying4 hp ⟨rfl, rfl, rfl⟩ hb
  exact ⟨_, rfl, hpost⟩

theorem macNumbers_holds : Rows.MacNumbersSaid :=
  OpenClaim.holds_of_wide 6 Try.f6 rfl rfl rfl rfl rfl rfl rfl ⟨rfl, rfl, rfl, rfl, rfl⟩ rfl rfl rfl rfl rfl (by kernel_rfl) Try.func6 (by kernel_rfl)
    (of_decide_eq_true (by kernel_rfl)) (by unfold Func.isWrapper; first | (rw [if_pos (by decide +kernel)]; kernel_rfl) | (rw [if_neg (by decide +kernel)]; exact ⟨rfl, rfl⟩))
    (fun os started H enc _ => macNumbers_lifted os started H enc)
#print axioms macNumbers_holds
end Go.Proofs.Ytgklokpjfnpabaa

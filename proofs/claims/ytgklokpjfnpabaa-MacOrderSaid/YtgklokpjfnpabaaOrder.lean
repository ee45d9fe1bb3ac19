/-
  Proved: MacOrder: Compare is an order of the addresses, and that of their texts; the law answers true at every three addresses.
  No condition.
-/
import Derived.Test.YtgklokpjfnpabaaMacC
namespace Go.Proofs.Ytgklokpjfnpabaa
open Go.RowKit Go.ChangeShapes Go.WideShapes Go.ChangeAt
set_option linter.unusedVariables false

/-! ### Plain: the order of the texts is that of the numbers -/
theorem fig_lt (n m : Int) (hn : 0 ≤ n ∧ n < 16) (hm : 0 ≤ m ∧ m < 16) : (fig n < fig m ↔ n < m) ∧ ((fig n == fig m) = true ↔ n = m) := by
  obtain ⟨a, rfl⟩ := Int.eq_ofNat_of_zero_le hn.1
  obtain ⟨b, rfl⟩ := Int.eq_ofNat_of_zero_le hm.1
  have key : ∀ a : Fin 16, ∀ b : Fin 16, (fig ((a.val : Nat) : Int) < fig ((b.val : Nat) : Int) ↔ a.val < b.val) ∧ ((fig ((a.val : Nat) : Int) == fig ((b.val : Nat) : Int)) = true ↔ a.val = b.val) := by decide +kernel
  have := key ⟨a, by omega⟩ ⟨b, by omega⟩
  exact ⟨this.1.trans (by simp only; omega), this.2.trans (by simp only; omega)⟩

theorem less_step (x y : Int) (hx : 0 ≤ x ∧ x < 256) (hy : 0 ≤ y ∧ y < 256) (r s : List UInt8) :
    Op.bytesLess (fig (x / 16) :: fig (x % 16) :: r) (fig (y / 16) :: fig (y % 16) :: s) = if x < y then true else if y < x then false else Op.bytesLess r s := by
  have h1 := fig_lt (x / 16) (y / 16) (by omega) (by omega)
  have h2 := fig_lt (x % 16) (y % 16) (by omega) (by omega)
  simp only [Op.bytesLess]
  by_cases a1 : x / 16 < y / 16
  · have e1 : decide (fig (x / 16) < fig (y / 16)) = true := by simpa using h1.1.2 a1
    rw [e1, if_pos (by omega)]; rfl
  · have e1 : decide (fig (x / 16) < fig (y / 16)) = false := by simpa using fun h => a1 (h1.1.1 h)
    by_cases a2 : x / 16 = y / 16
    · have e2 : (fig (x / 16) == fig (y / 16)) = true := h1.2.2 a2
      by_cases b1 : x % 16 < y % 16
      · have e3 : decide (fig (x % 16) < fig (y % 16)) = true := by simpa using h2.1.2 b1
        rw [e1, e2, e3, if_pos (by omega)]; rfl
      · have e3 : decide (fig (x % 16) < fig (y % 16)) = false := by simpa using fun h => b1 (h2.1.1 h)
        by_cases b2 : x % 16 = y % 16
        · have e4 : (fig (x % 16) == fig (y % 16)) = true := h2.2.2 b2
          rw [e1, e2, e3, e4, if_neg (by omega), if_neg (by omega)]; simp
        · have e4 : (fig (x % 16) == fig (y % 16)) = false := by rw [Bool.eq_false_iff]; exact fun h => b2 (h2.2.1 h)
          rw [e1, e2, e3, e4, if_neg (by omega), if_pos (by omega)]; rfl
    · have e2 : (fig (x / 16) == fig (y / 16)) = false := by rw [Bool.eq_false_iff]; exact fun h => a2 (h1.2.1 h)
      rw [e1, e2, if_neg (by omega), if_pos (by omega)]; rfl

theorem less_colon (r s : List UInt8) : Op.bytesLess (58 :: r) (58 :: s) = Op.bytesLess r s := by simp [Op.bytesLess]

theorem lt_step (K x y n m : Int) (hn : 0 ≤ n ∧ n < K) (hm : 0 ≤ m ∧ m < K) : (if x < y then true else if y < x then false else decide (n < m)) = decide (x * K + n < y * K + m) := by
  have hK : 0 ≤ K := by omega
  have key : ∀ a b : Int, a < b → a * K + K ≤ b * K := fun a b h => by
    have := Int.mul_le_mul_of_nonneg_right (show a + 1 ≤ b from h) hK
    rwa [Int.add_mul, Int.one_mul] at this
  by_cases h1 : x < y
  · have := key x y h1
    rw [if_pos h1]; symm; rw [decide_eq_true_eq]; omega
  · by_cases h2 : y < x
    · have := key y x h2
      rw [if_neg h1, if_pos h2]; symm; rw [decide_eq_false_iff_not]; omega
    · have e : x = y := by omega
      subst e
      rw [if_neg h1, if_neg h1]
      simp

theorem txt6_eq (x0 x1 x2 x3 x4 x5 : Int) : txt6 x0 x1 x2 x3 x4 x5 = [fig (x0 / 16), fig (x0 % 16), 58, fig (x1 / 16), fig (x1 % 16), 58, fig (x2 / 16), fig (x2 % 16), 58, fig (x3 / 16), fig (x3 % 16), 58, fig (x4 / 16), fig (x4 % 16), 58, fig (x5 / 16), fig (x5 % 16)] := by
  simp [txt6, txt]

theorem text_less (x0 x1 x2 x3 x4 x5 y0 y1 y2 y3 y4 y5 : Int) (hx0 : 0 ≤ x0 ∧ x0 < 256) (hx1 : 0 ≤ x1 ∧ x1 < 256) (hx2 : 0 ≤ x2 ∧ x2 < 256) (hx3 : 0 ≤ x3 ∧ x3 < 256) (hx4 : 0 ≤ x4 ∧ x4 < 256) (hx5 : 0 ≤ x5 ∧ x5 < 256) (hy0 : 0 ≤ y0 ∧ y0 < 256) (hy1 : 0 ≤ y1 ∧ y1 < 256) (hy2 : 0 ≤ y2 ∧ y2 < 256) (hy3 : 0 ≤ y3 ∧ y3 < 256) (hy4 : 0 ≤ y4 ∧ y4 < 256) (hy5 : 0 ≤ y5 ∧ y5 < 256) : Op.bytesLess (txt6 x0 x1 x2 x3 x4 x5) (txt6 y0 y1 y2 y3 y4 y5) = decide (num6 x0 x1 x2 x3 x4 x5 < num6 y0 y1 y2 y3 y4 y5) := by
  rw [txt6_eq, txt6_eq, less_step x0 y0 hx0 hy0, less_colon, less_step x1 y1 hx1 hy1, less_colon, less_step x2 y2 hx2 hy2, less_colon, less_step x3 y3 hx3 hy3, less_colon, less_step x4 y4 hx4 hy4, less_colon, less_step x5 y5 hx5 hy5]
  have e0 : Op.bytesLess [] [] = decide ((0 : Int) < 0) := rfl
  rw [e0, lt_step 1 x5 y5 0 0 (by omega) (by omega), lt_step 256 x4 y4 _ _ (by omega) (by omega), lt_step 65536 x3 y3 _ _ (by omega) (by omega), lt_step 16777216 x2 y2 _ _ (by omega) (by omega), lt_step 4294967296 x1 y1 _ _ (by omega) (by omega), lt_step 1099511627776 x0 y0 _ _ (by omega) (by omega)]
  unfold num6
  congr 1
  rw [eq_iff_iff]
  constructor <;> intro h <;> omega

theorem num_inj (x0 x1 x2 x3 x4 x5 y0 y1 y2 y3 y4 y5 : Int) (hx0 : 0 ≤ x0 ∧ x0 < 256) (hx1 : 0 ≤ x1 ∧ x1 < 256) (hx2 : 0 ≤ x2 ∧ x2 < 256) (hx3 : 0 ≤ x3 ∧ x3 < 256) (hx4 : 0 ≤ x4 ∧ x4 < 256) (hx5 : 0 ≤ x5 ∧ x5 < 256) (hy0 : 0 ≤ y0 ∧ y0 < 256) (hy1 : 0 ≤ y1 ∧ y1 < 256) (hy2 : 0 ≤ y2 ∧ y2 < 256) (hy3 : 0 ≤ y3 ∧ y3 < 256) (hy4 : 0 ≤ y4 ∧ y4 < 256) (hy5 : 0 ≤ y5 ∧ y5 < 256) : decide (x0 = y0 ∧ x1 = y1 ∧ x2 = y2 ∧ x3 = y3 ∧ x4 = y4 ∧ x5 = y5) = decide (num6 x0 x1 x2 x3 x4 x5 = num6 y0 y1 y2 y3 y4 y5) := by
  unfold num6
  congr 1
  rw [eq_iff_iff]
  constructor <;> intro h <;> omega

/-! ### The walk: one for each way that the three can stand -/
theorem cmp_neg (x0 x1 x2 x3 x4 x5 y0 y1 y2 y3 y4 y5 : Int) : cmp6 y0 y1 y2 y3 y4 y5 x0 x1 x2 x3 x4 x5 = -cmp6 x0 x1 x2 x3 x4 x5 y0 y1 y2 y3 y4 y5 := by
  unfold cmp6 cmpI
  generalize num6 x0 x1 x2 x3 x4 x5 = a
  generalize num6 y0 y1 y2 y3 y4 y5 = b
  by_cases h1 : a < b
  · rw [if_pos h1, if_neg (by omega), if_neg (by omega)]; rfl
  · by_cases h2 : a = b
    · subst h2; simp
    · rw [if_pos (by omega), if_neg h1, if_neg h2]

/-- Three blocks laid ahead of calls that make memory. -/
theorem three {w w1 : World} {A B C : Obj} (hb : Below (w.heap.size + 3) (((w.alloc A).alloc B).alloc C) w1) :
    (∀ o, w1.cell? ⟨w.heap.size, o, none⟩ = (((w.alloc A).alloc B).alloc C).cell? ⟨w.heap.size, o, none⟩) ∧ (∀ o, w1.cell? ⟨w.heap.size + 1, o, none⟩ = (((w.alloc A).alloc B).alloc C).cell? ⟨w.heap.size + 1, o, none⟩) ∧
      (∀ o, w1.cell? ⟨w.heap.size + 2, o, none⟩ = (((w.alloc A).alloc B).alloc C).cell? ⟨w.heap.size + 2, o, none⟩) ∧ w.heap.size + 3 ≤ w1.heap.size := by
  refine ⟨fun o => hb.cell (by simp), fun o => hb.cell (by simp), fun o => hb.cell (by simp), ?_⟩
  have := hb.size
  simpa using this

set_option maxHeartbeats 2000000 in
theorem order_walk (x0 x1 x2 x3 x4 x5 y0 y1 y2 y3 y4 y5 z0 z1 z2 z3 z4 z5 : Int) (w : World) (hx0 : 0 ≤ x0 ∧ x0 < 256) (hx1 : 0 ≤ x1 ∧ x1 < 256) (hx2 : 0 ≤ x2 ∧ x2 < 256) (hx3 : 0 ≤ x3 ∧ x3 < 256) (hx4 : 0 ≤ x4 ∧ x4 < 256) (hx5 : 0 ≤ x5 ∧ x5 < 256) (hy0 : 0 ≤ y0 ∧ y0 < 256) (hy1 : 0 ≤ y1 ∧ y1 < 256) (hy2 : 0 ≤ y2 ∧ y2 < 256) (hy3 : 0 ≤ y3 ∧ y3 < 256) (hy4 : 0 ≤ y4 ∧ y4 < 256) (hy5 : 0 ≤ y5 ∧ y5 < 256) (hz0 : 0 ≤ z0 ∧ z0 < 256) (hz1 : 0 ≤ z1 ∧ z1 < 256) (hz2 : 0 ≤ z2 ∧ z2 < 256) (hz3 : 0 ≤ z3 ∧ z3 < 256) (hz4 : 0 ≤ z4 ∧ z4 < 256) (hz5 : 0 ≤ z5 ∧ z5 < 256) (cx cy cz : Int) (ex lx : Bool)
    (hcx : cmp6 x0 x1 x2 x3 x4 x5 y0 y1 y2 y3 y4 y5 = cx) (hcy : cmp6 y0 y1 y2 y3 y4 y5 z0 z1 z2 z3 z4 z5 = cy) (hcz : cmp6 x0 x1 x2 x3 x4 x5 z0 z1 z2 z3 z4 z5 = cz)
    (hex : decide (num6 x0 x1 x2 x3 x4 x5 = num6 y0 y1 y2 y3 y4 y5) = ex) (hlx : decide (num6 x0 x1 x2 x3 x4 x5 < num6 y0 y1 y2 y3 y4 y5) = lx)
    (hway : (cx = 1 ∧ ex = false ∧ lx = false) ∨ (cx = -1 ∧ ex = false ∧ lx = true ∧ cy = 1) ∨ (cx = -1 ∧ ex = false ∧ lx = true ∧ cy = -1 ∧ cz = -1) ∨ (cx = -1 ∧ ex = false ∧ lx = true ∧ cy = 0 ∧ cz = -1) ∨
      (cx = 0 ∧ ex = true ∧ lx = false ∧ cy = 1) ∨ (cx = 0 ∧ ex = true ∧ lx = false ∧ cy = -1 ∧ cz = -1) ∨ (cx = 0 ∧ ex = true ∧ lx = false ∧ cy = 0 ∧ cz = 0)) :
    Calls Try.prog 4 #[.agg #[.int .u8 x0, .int .u8 x1, .int .u8 x2, .int .u8 x3, .int .u8 x4, .int .u8 x5], .agg #[.int .u8 y0, .int .u8 y1, .int .u8 y2, .int .u8 y3, .int .u8 y4, .int .u8 y5], .agg #[.int .u8 z0, .int .u8 z1, .int .u8 z2, .int .u8 z3, .int .u8 z4, .int .u8 z5]] w fun e w' => e = .returned (.bool true) ∧ Below w.heap.size w w' := by
  obtain ⟨i0, hi, -, -, -⟩ := info_parts info5
  have HX := fun u => compare_any x0 x1 x2 x3 x4 x5 y0 y1 y2 y3 y4 y5 u hx0 hx1 hx2 hx3 hx4 hx5 hy0 hy1 hy2 hy3 hy4 hy5
  have HY := fun u => compare_any y0 y1 y2 y3 y4 y5 z0 z1 z2 z3 z4 z5 u hy0 hy1 hy2 hy3 hy4 hy5 hz0 hz1 hz2 hz3 hz4 hz5
  have HZ := fun u => compare_any x0 x1 x2 x3 x4 x5 z0 z1 z2 z3 z4 z5 u hx0 hx1 hx2 hx3 hx4 hx5 hz0 hz1 hz2 hz3 hz4 hz5
  have HB := fun u => compare_any y0 y1 y2 y3 y4 y5 x0 x1 x2 x3 x4 x5 u hy0 hy1 hy2 hy3 hy4 hy5 hx0 hx1 hx2 hx3 hx4 hx5
  have HT := hide (fun u => text_any x0 x1 x2 x3 x4 x5 u hx0 hx1 hx2 hx3 hx4 hx5)
  have HU := hide (fun u => text_any y0 y1 y2 y3 y4 y5 u hy0 hy1 hy2 hy3 hy4 hy5)
  have hq := fun w => run_eq6 (P := Try.prog) (w := w) (d := 9998) (t := 23) Try.underlying23 Try.underlying5 hi cells5 x0 x1 x2 x3 x4 x5 y0 y1 y2 y3 y4 y5
  have hl := text_less x0 x1 x2 x3 x4 x5 y0 y1 y2 y3 y4 y5 hx0 hx1 hx2 hx3 hx4 hx5 hy0 hy1 hy2 hy3 hy4 hy5
  rw [num_inj x0 x1 x2 x3 x4 x5 y0 y1 y2 y3 y4 y5 hx0 hx1 hx2 hx3 hx4 hx5 hy0 hy1 hy2 hy3 hy4 hy5, hex] at hq
  rw [hlx] at hl
  rw [hcx] at HX
  rw [cmp_neg, hcx] at HB
  rw [hcy] at HY
  rw [hcz] at HZ
  have K1 := hide HX; have K2 := hide HY; have K3 := hide HZ; have K4 := hide HB
  clear HX HY HZ HB hcx hcy hcz hex hlx hx0 hx1 hx2 hx3 hx4 hx5 hy0 hy1 hy2 hy3 hy4 hy5 hz0 hz1 hz2 hz3 hz4 hz5 hi
  generalize hT : txt6 x0 x1 x2 x3 x4 x5 = T at *
  generalize hU : txt6 y0 y1 y2 y3 y4 y5 = U at *
  clear hT hU
  rcases hway with ⟨rfl, rfl, rfl⟩ | ⟨rfl, rfl, rfl, rfl⟩ | ⟨rfl, rfl, rfl, rfl, rfl⟩ | ⟨rfl, rfl, rfl, rfl, rfl⟩ | ⟨rfl, rfl, rfl, rfl⟩ | ⟨rfl, rfl, rfl, rfl, rfl⟩ | ⟨rfl, rfl, rfl, rfl, rfl⟩
  all_goals
    go_enter Try.func4, Try.ntmps4
    go_wp2_with fail
    refine (awake_any _).mono ?_
    rintro e w1 ⟨rfl, hb1⟩
    have hb1' : Below (w.heap.size + 3) _ w1 := hb1.mono (by simp)
    obtain ⟨a1, a2, a3, hs1⟩ := three hb1'
    go_wp2_with fail
    refine (K1.out _).mono ?_
    rintro e w2 ⟨rfl, hb2⟩
    have hb2' := hb1'.trans (hb2.mono hs1)
    clear a1 a2 a3
    obtain ⟨a1, a2, a3, hs2⟩ := three hb2'
    go_wp2_with fail
    refine (K2.out _).mono ?_
    rintro e w3 ⟨rfl, hb3⟩
    have hb3' := hb2'.trans (hb3.mono hs2)
    clear a1 a2 a3
    obtain ⟨a1, a2, a3, hs3⟩ := three hb3'
    go_wp2_with fail
    refine (K3.out _).mono ?_
    rintro e w4 ⟨rfl, hb4⟩
    have hb4' := hb3'.trans (hb4.mono hs3)
    clear a1 a2 a3
    obtain ⟨a1, a2, a3, hs4⟩ := three hb4'
    go_wp2_with fail
    refine wp_region_class (by kernel_rfl) (by kernel_rfl) (fun C hC hS hN => ?_)
    have hx : ∀ (u : Of C) (o : Nat), u.w.cell? ⟨w.heap.size, o, none⟩ = w4.cell? ⟨w.heap.size, o, none⟩ := fun u o => (hC _ u.ok).cell (by show w.heap.size < _; omega)
    have hy : ∀ (u : Of C) (o : Nat), u.w.cell? ⟨w.heap.size + 1, o, none⟩ = w4.cell? ⟨w.heap.size + 1, o, none⟩ := fun u o => (hC _ u.ok).cell (by show w.heap.size + 1 < _; omega)
    have HS := hide hS; have HC := hide hC; clear hS hC
    repeat (go_big_quiet_step ((first
      | (go_at_call 11; first | ((with_reducible exact Calls.of_class HS.out (HT.out _))) | ((with_reducible exact Calls.of_class HS.out (HU.out _)))))))
    refine wpQuiet_nil ?_
    intro w5 hb5
    clear hx hy a1 a2 a3
    have hb5' := hb4'.trans (hb5.mono hs4)
    obtain ⟨a1, a2, a3, hs5⟩ := three hb5'
    go_wp2_with (go_at_call 19; refine (K4.out _).mono ?_; rintro e w6 ⟨rfl, hb6⟩; have hb6' := hb5'.trans (hb6.mono hs5); clear a1 a2 a3; obtain ⟨a1, a2, a3, hs6⟩ := three hb6')
    go_ret
    exact ⟨rfl, ((((Below.refl w.heap.size w).alloc (Nat.le_refl _) _).alloc (by simp) _).alloc (by simp; omega) _).trans (hb6'.mono (by omega))⟩

theorem order_ways (x0 x1 x2 x3 x4 x5 y0 y1 y2 y3 y4 y5 z0 z1 z2 z3 z4 z5 : Int) : ∃ (cx cy cz : Int) (ex lx : Bool), cmp6 x0 x1 x2 x3 x4 x5 y0 y1 y2 y3 y4 y5 = cx ∧ cmp6 y0 y1 y2 y3 y4 y5 z0 z1 z2 z3 z4 z5 = cy ∧ cmp6 x0 x1 x2 x3 x4 x5 z0 z1 z2 z3 z4 z5 = cz ∧
    decide (num6 x0 x1 x2 x3 x4 x5 = num6 y0 y1 y2 y3 y4 y5) = ex ∧ decide (num6 x0 x1 x2 x3 x4 x5 < num6 y0 y1 y2 y3 y4 y5) = lx ∧
    ((cx = 1 ∧ ex = false ∧ lx = false) ∨ (cx = -1 ∧ ex = false ∧ lx = true ∧ cy = 1) ∨ (cx = -1 ∧ ex = false ∧ lx = true ∧ cy = -1 ∧ cz = -1) ∨ (cx = -1 ∧ ex = false ∧ lx = true ∧ cy = 0 ∧ cz = -1) ∨
      (cx = 0 ∧ ex = true ∧ lx = false ∧ cy = 1) ∨ (cx = 0 ∧ ex = true ∧ lx = false ∧ cy = -1 ∧ cz = -1) ∨ (cx = 0 ∧ ex = true ∧ lx = false ∧ cy = 0 ∧ cz = 0)) := by
  refine ⟨_, _, _, _, _, rfl, rfl, rfl, rfl, rfl, ?_⟩
  unfold cmp6
  generalize num6 x0 x1 x2 x3 x4 x5 = a
  generalize num6 y0 y1 y2 y3 y4 y5 = b
  generalize num6 z0 z1 z2 z3 z4 z5 = c
  have P : ∀ p q : Int, cmpI p q = -1 ∧ p < q ∨ cmpI p q = 0 ∧ p = q ∨ cmpI p q = 1 ∧ q < p := fun p q => by
    unfold cmpI
    by_cases h1 : p < q
    · exact .inl ⟨by rw [if_pos h1], h1⟩
    · by_cases h2 : p = q
      · exact .inr (.inl ⟨by rw [if_neg h1, if_pos h2], h2⟩)
      · exact .inr (.inr ⟨by rw [if_neg h1, if_neg h2], by omega⟩)
  have D : ∀ p q : Int, p < q → decide (p = q) = false ∧ decide (p < q) = true := fun p q h => ⟨by rw [decide_eq_false_iff_not]; omega, by rw [decide_eq_true_eq]; exact h⟩
  have E : ∀ p q : Int, p = q → decide (p = q) = true ∧ decide (p < q) = false := fun p q h => ⟨by rw [decide_eq_true_eq]; exact h, by rw [decide_eq_false_iff_not]; omega⟩
  have F : ∀ p q : Int, q < p → decide (p = q) = false ∧ decide (p < q) = false := fun p q h => ⟨by rw [decide_eq_false_iff_not]; omega, by rw [decide_eq_false_iff_not]; omega⟩
  rcases P a b with ⟨e1, g1⟩ | ⟨e1, g1⟩ | ⟨e1, g1⟩
  · rw [e1, (D a b g1).1, (D a b g1).2]
    rcases P b c with ⟨e2, g2⟩ | ⟨e2, g2⟩ | ⟨e2, g2⟩
    · rcases P a c with ⟨e3, g3⟩ | ⟨e3, g3⟩ | ⟨e3, g3⟩ <;> first | (exfalso; omega) | (rw [e2, e3]; simp)
    · rcases P a c with ⟨e3, g3⟩ | ⟨e3, g3⟩ | ⟨e3, g3⟩ <;> first | (exfalso; omega) | (rw [e2, e3]; simp)
    · rw [e2]; simp
  · rw [e1, (E a b g1).1, (E a b g1).2]
    rcases P b c with ⟨e2, g2⟩ | ⟨e2, g2⟩ | ⟨e2, g2⟩
    · rcases P a c with ⟨e3, g3⟩ | ⟨e3, g3⟩ | ⟨e3, g3⟩ <;> first | (exfalso; omega) | (rw [e2, e3]; simp)
    · rcases P a c with ⟨e3, g3⟩ | ⟨e3, g3⟩ | ⟨e3, g3⟩ <;> first | (exfalso; omega) | (rw [e2, e3]; simp)
    · rw [e2]; simp
  · rw [e1, (F a b g1).1, (F a b g1).2]
    simp

theorem macOrder_any (x0 x1 x2 x3 x4 x5 y0 y1 y2 y3 y4 y5 z0 z1 z2 z3 z4 z5 : Int) (w : World) (hx0 : 0 ≤ x0 ∧ x0 < 256) (hx1 : 0 ≤ x1 ∧ x1 < 256) (hx2 : 0 ≤ x2 ∧ x2 < 256) (hx3 : 0 ≤ x3 ∧ x3 < 256) (hx4 : 0 ≤ x4 ∧ x4 < 256) (hx5 : 0 ≤ x5 ∧ x5 < 256) (hy0 : 0 ≤ y0 ∧ y0 < 256) (hy1 : 0 ≤ y1 ∧ y1 < 256) (hy2 : 0 ≤ y2 ∧ y2 < 256) (hy3 : 0 ≤ y3 ∧ y3 < 256) (hy4 : 0 ≤ y4 ∧ y4 < 256) (hy5 : 0 ≤ y5 ∧ y5 < 256) (hz0 : 0 ≤ z0 ∧ z0 < 256) (hz1 : 0 ≤ z1 ∧ z1 < 256) (hz2 : 0 ≤ z2 ∧ z2 < 256) (hz3 : 0 ≤ z3 ∧ z3 < 256) (hz4 : 0 ≤ z4 ∧ z4 < 256) (hz5 : 0 ≤ z5 ∧ z5 < 256) :
    Calls Try.prog 4 #[.agg #[.int .u8 x0, .int .u8 x1, .int .u8 x2, .int .u8 x3, .int .u8 x4, .int .u8 x5], .agg #[.int .u8 y0, .int .u8 y1, .int .u8 y2, .int .u8 y3, .int .u8 y4, .int .u8 y5], .agg #[.int .u8 z0, .int .u8 z1, .int .u8 z2, .int .u8 z3, .int .u8 z4, .int .u8 z5]] w fun e w' => e = .returned (.bool true) ∧ Below w.heap.size w w' := by
  obtain ⟨cx, cy, cz, ex, lx, h1, h2, h3, h4, h5, h6⟩ := order_ways x0 x1 x2 x3 x4 x5 y0 y1 y2 y3 y4 y5 z0 z1 z2 z3 z4 z5
  exact order_walk x0 x1 x2 x3 x4 x5 y0 y1 y2 y3 y4 y5 z0 z1 z2 z3 z4 z5 w hx0 hx1 hx2 hx3 hx4 hx5 hy0 hy1 hy2 hy3 hy4 hy5 hz0 hz1 hz2 hz3 hz4 hz5 cx cy cz ex lx h1 h2 h3 h4 h5 h6

set_option maxRecDepth 100000 in
theorem macOrder_lifted (os : Os) (started : os.Started) (H : Type) (enc : TypeId × Value → H) :
    ReturnsInHanded {} Try.checked os 4 .any (Rows.macOrderSpec.pre6 enc Try.prog Try.f4 Rows.macOrderRow.domain false) (Rows.macOrderSpec.post enc Try.prog Try.f4 false true false false) := by
  refine returnsInHanded_of_change (C := Try.checked) own started (by kernel_rfl) Try.func4
    (ChangeSpec.witness6 (enc := enc) (C := Try.checked) false ⟨#[], #[.agg #[.int .u8 0, .int .u8 0, .int .u8 0, .int .u8 0, .int .u8 0, .int .u8 0], .agg #[.int .u8 0, .int .u8 0, .int .u8 0, .int .u8 0, .int .u8 0, .int .u8 0], .agg #[.int .u8 0, .int .u8 0, .int .u8 0, .int .u8 0, .int .u8 0, .int .u8 0]], []⟩ 8 (by kernel_rfl) (by kernel_rfl) (by kernel_rfl) (by kernel_rfl)) ?_
  intro W base args ds gs before hval0 hW hcnd _
  have hval : ∀ (j : Nat) t v, Try.f4.params[j]? = some t → args[j]? = some v → Value.okWide Try.prog W .any base t v := hval0
  have hW' : DataW.Whole enc Try.prog Try.f4.params.toList Rows.macOrderSpec.vars false W args.toList ds gs before := hW
  have hlen : args.toList.length = Try.f4.params.toList.length ∧ ds.length = Try.f4.params.toList.length := by
    obtain ⟨p, q, hA, _⟩ := hW'
    exact trodAll_len _ _ _ _ hA
  rw [Try.params4] at hval hlen
  obtain ⟨p0, p1, p2, rfl⟩ := args3 args hlen.1
  obtain ⟨d0, d1, d2, rfl⟩ := list3 ds hlen.2
  obtain rfl : gs = [] := by
    obtain ⟨p, q, _, hV, _⟩ := hW'
    exact (trodVars_none hV).1
  obtain ⟨x0, x1, x2, x3, x4, x5, rfl, hx0, hx1, hx2, hx3, hx4, hx5⟩ := open_mac Try.underlying23 Try.underlying5 cells23 cellTypes23 (hval 0 23 p0 rfl rfl)
  obtain ⟨y0, y1, y2, y3, y4, y5, rfl, hy0, hy1, hy2, hy3, hy4, hy5⟩ := open_mac Try.underlying23 Try.underlying5 cells23 cellTypes23 (hval 1 23 p1 rfl rfl)
  obtain ⟨z0, z1, z2, z3, z4, z5, rfl, hz0, hz1, hz2, hz3, hz4, hz5⟩ := open_mac Try.underlying23 Try.underlying5 cells23 cellTypes23 (hval 2 23 p2 rfl rfl)
  refine (macOrder_any x0 x1 x2 x3 x4 x5 y0 y1 y2 y3 y4 y5 z0 z1 z2 z3 z4 z5 W hx0 hx1 hx2 hx3 hx4 hx5 hy0 hy1 hy2 hy3 hy4 hy5 hz0 hz1 hz2 hz3 hz4 hz5).mono fun e W' ⟨he, hb⟩ => ?_
  subst he
  have hp : ∀ t ∈ Try.f4.params.toList, Try.prog.readableRec t = true ∧ t < Try.prog.types.size := by
    rw [Try.params4]
    intro t ht
    simp at ht
    rcases ht with rfl
    all_goals first | exact readable23
  have hpost := law_post (enc := enc) (P := Try.prog) (f := Try.f4) (s := Rows.macOrderSpec) (tb := 4) (W' := W') laidOut hW' rfl (by kernel_rfl) Try.underlying4 hp ⟨rfl, rfl, rfl⟩ hb
  exact ⟨_, rfl, hpost⟩

theorem macOrder_holds : Rows.MacOrderSaid :=
  OpenClaim.holds_of_wide 4 Try.f4 rfl rfl rfl rfl rfl rfl rfl ⟨rfl, rfl, rfl, rfl, rfl⟩ rfl rfl rfl rfl rfl (by kernel_rfl) Try.func4 (by kernel_rfl)
    (of_decide_eq_true (by kernel_rfl)) (by unfold Func.isWrapper; first | (rw [if_pos (by decide +kernel)]; kernel_rfl) | (rw [if_neg (by decide +kernel)]; exact ⟨rfl, rfl⟩))
    (fun os started H enc _ => macOrder_lifted os started H enc)
#print axioms macOrder_holds
end Go.Proofs.Ytgklokpjfnpabaa

/-
  An address's number, its kind, and which of two is less: what the program's functions and the reference's come to.
-/
import Derived.Test.YtgklokpjfnpabaaRows
import Derived.Test.YtgklokpjfnpabaaBase
import Derived.Lib.BytesEntry
import Derived.Deep.QuietTactic
import Derived.BigQuiet
namespace Go.Proofs.Ytgklokpjfnpabaa
open Go.RowKit
set_option linter.unusedVariables false

/-! ### Plain facts -/
def num6 (x0 x1 x2 x3 x4 x5 : Int) : Int := ((((x0 * 256 + x1) * 256 + x2) * 256 + x3) * 256 + x4) * 256 + x5
def cmpI (n m : Int) : Int := if n < m then -1 else if n = m then 0 else 1
def cmp6 (x0 x1 x2 x3 x4 x5 y0 y1 y2 y3 y4 y5 : Int) : Int := cmpI (num6 x0 x1 x2 x3 x4 x5) (num6 y0 y1 y2 y3 y4 y5)

theorem or_join (a x : Int) (ha : 0 ≤ a ∧ a < 72057594037927936) (hx : 0 ≤ x ∧ x < 256) : bits .or .u64 (a * 256) x = a * 256 + x := by
  rw [u64_or (a * 256) x (by omega) (by omega) (by omega) (by omega), nat_join 8 _ _ (by omega) (by omega)]
  omega
theorem or_zero (x : Int) (hx : 0 ≤ x ∧ x < 256) : bits .or .u64 0 x = x := by
  have := or_join 0 x (by omega) hx
  simpa using this

set_option maxHeartbeats 400000 in
theorem number_any (x0 x1 x2 x3 x4 x5 : Int) (w : World) (hx0 : 0 ≤ x0 ∧ x0 < 256) (hx1 : 0 ≤ x1 ∧ x1 < 256) (hx2 : 0 ≤ x2 ∧ x2 < 256) (hx3 : 0 ≤ x3 ∧ x3 < 256) (hx4 : 0 ≤ x4 ∧ x4 < 256) (hx5 : 0 ≤ x5 ∧ x5 < 256) :
    Calls Try.prog 13 #[.agg #[.int .u8 x0, .int .u8 x1, .int .u8 x2, .int .u8 x3, .int .u8 x4, .int .u8 x5]] w fun e w' => e = .returned (.int .u64 (num6 x0 x1 x2 x3 x4 x5)) ∧ w.alloc (.cells #[.int .u8 x0, .int .u8 x1, .int .u8 x2, .int .u8 x3, .int .u8 x4, .int .u8 x5] 23) = w' := by
  have o0 := or_zero x0 hx0
  have o1 := or_join x0 x1 (by omega) hx1
  have o2 := or_join (x0 * 256 + x1) x2 (by omega) hx2
  have o3 := or_join ((x0 * 256 + x1) * 256 + x2) x3 (by omega) hx3
  have o4 := or_join (((x0 * 256 + x1) * 256 + x2) * 256 + x3) x4 (by omega) hx4
  have o5 := or_join ((((x0 * 256 + x1) * 256 + x2) * 256 + x3) * 256 + x4) x5 (by omega) hx5
  go_enter Try.func13, Try.ntmps13
  go_wp2
  refine wp_loop_rounds 7 ?_
  iterate 7
    rw [rounds_succ]
    go_wp2
  go_ret
  exact ⟨rfl, rfl⟩

set_option maxHeartbeats 400000 in
theorem refNumber_any (x0 x1 x2 x3 x4 x5 : Int) (w : World) (hx0 : 0 ≤ x0 ∧ x0 < 256) (hx1 : 0 ≤ x1 ∧ x1 < 256) (hx2 : 0 ≤ x2 ∧ x2 < 256) (hx3 : 0 ≤ x3 ∧ x3 < 256) (hx4 : 0 ≤ x4 ∧ x4 < 256) (hx5 : 0 ≤ x5 ∧ x5 < 256) :
    Calls Try.prog 14 #[.agg #[.int .u8 x0, .int .u8 x1, .int .u8 x2, .int .u8 x3, .int .u8 x4, .int .u8 x5]] w fun e w' => e = .returned (.int .u64 (num6 x0 x1 x2 x3 x4 x5)) ∧ w.alloc (.cells #[.int .u8 x0, .int .u8 x1, .int .u8 x2, .int .u8 x3, .int .u8 x4, .int .u8 x5] 23) = w' := by
  go_enter Try.func14, Try.ntmps14
  go_wp2
  refine wp_loop_rounds 7 ?_
  iterate 7
    rw [rounds_succ]
    go_wp2
  go_ret
  exact ⟨rfl, rfl⟩

theorem group_any (x0 x1 x2 x3 x4 x5 : Int) (w : World) (hx0 : 0 ≤ x0 ∧ x0 < 256) (hx1 : 0 ≤ x1 ∧ x1 < 256) (hx2 : 0 ≤ x2 ∧ x2 < 256) (hx3 : 0 ≤ x3 ∧ x3 < 256) (hx4 : 0 ≤ x4 ∧ x4 < 256) (hx5 : 0 ≤ x5 ∧ x5 < 256) :
    Calls Try.prog 15 #[.agg #[.int .u8 x0, .int .u8 x1, .int .u8 x2, .int .u8 x3, .int .u8 x4, .int .u8 x5]] w fun e w' => e = .returned (.bool (x0 % 2 == 1)) ∧ w.alloc (.cells #[.int .u8 x0, .int .u8 x1, .int .u8 x2, .int .u8 x3, .int .u8 x4, .int .u8 x5] 23) = w' := by
  have hb : bits .and .u8 x0 1 = x0 % 2 := by
    rw [u8_and x0 1 (by omega) (by omega) (by decide) (by decide), show (1 : Int).toNat = 1 from rfl, nat_mask1]
    omega
  go_enter Try.func15, Try.ntmps15
  go_wp2
  go_ret
  exact ⟨rfl, rfl⟩

theorem refGroup_any (x0 x1 x2 x3 x4 x5 : Int) (w : World) (hx0 : 0 ≤ x0 ∧ x0 < 256) (hx1 : 0 ≤ x1 ∧ x1 < 256) (hx2 : 0 ≤ x2 ∧ x2 < 256) (hx3 : 0 ≤ x3 ∧ x3 < 256) (hx4 : 0 ≤ x4 ∧ x4 < 256) (hx5 : 0 ≤ x5 ∧ x5 < 256) :
    Calls Try.prog 16 #[.agg #[.int .u8 x0, .int .u8 x1, .int .u8 x2, .int .u8 x3, .int .u8 x4, .int .u8 x5]] w fun e w' => e = .returned (.bool (x0 % 2 == 1)) ∧ w.alloc (.cells #[.int .u8 x0, .int .u8 x1, .int .u8 x2, .int .u8 x3, .int .u8 x4, .int .u8 x5] 23) = w' := by
  go_enter Try.func16, Try.ntmps16
  go_wp2
  go_ret
  exact ⟨rfl, rfl⟩

theorem cells5 : Try.prog.cellsOf 5 = 1 := by kernel_rfl
theorem info5 : (Try.prog.info? 5).map (fun i => (i.zero, i.size, i.bytes)) = some (some (.int .u8 0), 1, 1) := by kernel_rfl

def kept6 (x0 x1 x2 x3 x4 x5 : Int) : Bool := num6 x0 x1 x2 x3 x4 x5 / 16 == 103282638848

theorem kept_iff (x0 x1 x2 x3 x4 x5 : Int) (hx0 : 0 ≤ x0 ∧ x0 < 256) (hx1 : 0 ≤ x1 ∧ x1 < 256) (hx2 : 0 ≤ x2 ∧ x2 < 256) (hx3 : 0 ≤ x3 ∧ x3 < 256) (hx4 : 0 ≤ x4 ∧ x4 < 256) (hx5 : 0 ≤ x5 ∧ x5 < 256) : decide (x0 = 1 ∧ x1 = 128 ∧ x2 = 194 ∧ x3 = 0 ∧ x4 = 0 ∧ x5 - x5 % 16 = 0) = kept6 x0 x1 x2 x3 x4 x5 := by
  unfold kept6 num6
  rw [Bool.eq_iff_iff, decide_eq_true_eq, beq_iff_eq]
  omega

theorem andNot15 (x : Int) (h : 0 ≤ x ∧ x < 256) : bits .andNot .u8 x 15 = x - x % 16 := by
  rw [u8_andNot x 15 h.1 h.2 (by decide) (by decide), show (255 - (15 : Int).toNat) = 240 from rfl]
  obtain ⟨n, rfl⟩ := Int.eq_ofNat_of_zero_le h.1
  have hn : n < 256 := by omega
  have key : ∀ m : Nat, m < 256 → m &&& 240 = m - m % 16 := by decide +kernel
  rw [Int.toNat_natCast, key n hn]
  omega

set_option maxHeartbeats 400000 in
theorem reserved_any (x0 x1 x2 x3 x4 x5 : Int) (w : World) (hx0 : 0 ≤ x0 ∧ x0 < 256) (hx1 : 0 ≤ x1 ∧ x1 < 256) (hx2 : 0 ≤ x2 ∧ x2 < 256) (hx3 : 0 ≤ x3 ∧ x3 < 256) (hx4 : 0 ≤ x4 ∧ x4 < 256) (hx5 : 0 ≤ x5 ∧ x5 < 256) :
    Calls Try.prog 17 #[.agg #[.int .u8 x0, .int .u8 x1, .int .u8 x2, .int .u8 x3, .int .u8 x4, .int .u8 x5]] w fun e w' => e = .returned (.bool (kept6 x0 x1 x2 x3 x4 x5)) ∧ Below w.heap.size w w' := by
  obtain ⟨i0, hi, hz0, hz1, hz2⟩ := info_parts info5
  have ha := andNot15 x5 hx5
  have hq := fun w => run_eq6 (P := Try.prog) (w := w) (d := 9998) (t := 23) Try.underlying23 Try.underlying5 hi cells5 x0 x1 x2 x3 x4 (x5 - x5 % 16) 1 128 194 0 0 0
  have hk := kept_iff x0 x1 x2 x3 x4 x5 hx0 hx1 hx2 hx3 hx4 hx5
  rw [hk] at hq
  clear hk hz0 hz1 hz2 hi
  go_enter Try.func17, Try.ntmps17
  go_wp2
  go_ret
  exact ⟨rfl, (Below.refl _ _).alloc (Nat.le_refl _) _⟩

set_option maxHeartbeats 400000 in
theorem refReserved_any (x0 x1 x2 x3 x4 x5 : Int) (w : World) (hx0 : 0 ≤ x0 ∧ x0 < 256) (hx1 : 0 ≤ x1 ∧ x1 < 256) (hx2 : 0 ≤ x2 ∧ x2 < 256) (hx3 : 0 ≤ x3 ∧ x3 < 256) (hx4 : 0 ≤ x4 ∧ x4 < 256) (hx5 : 0 ≤ x5 ∧ x5 < 256) :
    Calls Try.prog 18 #[.agg #[.int .u8 x0, .int .u8 x1, .int .u8 x2, .int .u8 x3, .int .u8 x4, .int .u8 x5]] w fun e w' => e = .returned (.bool (kept6 x0 x1 x2 x3 x4 x5)) ∧ Below w.heap.size w w' := by
  have hn0 : 0 ≤ num6 x0 x1 x2 x3 x4 x5 := by unfold num6; omega
  have hn1 : num6 x0 x1 x2 x3 x4 x5 < 281474976710656 := by unfold num6; omega
  go_enter Try.func18, Try.ntmps18
  go_wp2_with (go_at_call 14; refine (refNumber_any x0 x1 x2 x3 x4 x5 _ hx0 hx1 hx2 hx3 hx4 hx5).mono ?_; rintro e w' ⟨rfl, rfl⟩)
  go_ret
  exact ⟨rfl, ((Below.refl _ _).alloc (Nat.le_refl _) _).alloc (by simp) _⟩

/-! ### Which of two is less -/
theorem run_compareRows {P : Program} (w : World) (xs ys : List Int) (a b : Addr) (n m c d : Nat) (hx : xs.length = n) (hy : ys.length = m) (ha : ∀ j x, xs[j]? = some x → w.cell? (a.add j) = some (.int .u8 x)) (hb : ∀ j x, ys[j]? = some x → w.cell? (b.add j) = some (.int .u8 x)) :
    (Extern.BytealgCompare.compare #[.slice (some a) n c, .slice (some b) m d]).run P w = .ok (.int .i64 (Lib.compareBytes (Lib.bytesOf xs) (Lib.bytesOf ys))) w := by
  subst hx hy
  have h1 := Lib.run_loadBytesX (P := P) w xs a .empty ha
  have h2 := Lib.run_loadBytesX (P := P) w ys b .empty hb
  have e : ∀ l : List UInt8, (⟨ByteArray.empty.data ++ l.toArray⟩ : ByteArray) = ⟨l.toArray⟩ := fun l => by
    apply ByteArray.ext
    show (#[] : Array UInt8) ++ l.toArray = l.toArray
    simp
  rw [e] at h1 h2
  have hs := Lib.run_compareString (P := P) ⟨(Lib.bytesOf xs).toArray⟩ ⟨(Lib.bytesOf ys).toArray⟩ w
  change Sem.run P (do pure (goInt (Extern.BytealgCompare.cmp (← Extern.Bytes.bytesOf (.slice (some a) xs.length c)) (← Extern.Bytes.bytesOf (.slice (some b) ys.length d))))) w = _
  change Sem.run P (do pure (goInt (Extern.BytealgCompare.cmp (← Extern.Bytes.bytesOf (.string ⟨(Lib.bytesOf xs).toArray⟩)) (← Extern.Bytes.bytesOf (.string ⟨(Lib.bytesOf ys).toArray⟩))))) w = _ at hs
  simp only [Extern.Bytes.bytesOf, Sem.run_bind, Sem.run_pure, h1, h2, Result.andThen] at hs ⊢
  exact hs

theorem compareBytes_cons (x y : Int) (xs ys : List Int) (hx : 0 ≤ x ∧ x < 256) (hy : 0 ≤ y ∧ y < 256) :
    Lib.compareBytes (Lib.bytesOf (x :: xs)) (Lib.bytesOf (y :: ys)) = if x < y then -1 else if y < x then 1 else Lib.compareBytes (Lib.bytesOf xs) (Lib.bytesOf ys) := by
  have e : ∀ a b : Int, 0 ≤ a → a < 256 → 0 ≤ b → b < 256 → ((UInt8.ofNat a.toNat < UInt8.ofNat b.toNat) ↔ a < b) := fun a b h1 h2 h3 h4 => by
    rw [UInt8.lt_iff_toNat_lt, UInt8.toNat_ofNat', UInt8.toNat_ofNat']
    omega
  simp only [Lib.bytesOf, List.map_cons, Lib.compareBytes, e x y hx.1 hx.2 hy.1 hy.2, e y x hy.1 hy.2 hx.1 hx.2]

theorem cmp_step (K x y n m : Int) (hn : 0 ≤ n ∧ n < K) (hm : 0 ≤ m ∧ m < K) : (if x < y then -1 else if y < x then 1 else cmpI n m) = cmpI (x * K + n) (y * K + m) := by
  have hK : 0 ≤ K := by omega
  have key : ∀ a b : Int, a < b → a * K + K ≤ b * K := fun a b h => by
    have := Int.mul_le_mul_of_nonneg_right (show a + 1 ≤ b from h) hK
    rwa [Int.add_mul, Int.one_mul] at this
  unfold cmpI
  by_cases h1 : x < y
  · have := key x y h1
    rw [if_pos h1, if_pos (by omega)]
  · by_cases h2 : y < x
    · have := key y x h2
      rw [if_neg h1, if_pos h2, if_neg (by omega), if_neg (by omega)]
    · have e : x = y := by omega
      subst e
      rw [if_neg h1, if_neg h1]
      by_cases h3 : n < m
      · rw [if_pos h3, if_pos (by omega)]
      · by_cases h4 : n = m
        · subst h4; simp
        · rw [if_neg h3, if_neg h4, if_neg (by omega), if_neg (by omega)]

theorem compare_num (x0 x1 x2 x3 x4 x5 y0 y1 y2 y3 y4 y5 : Int) (hx0 : 0 ≤ x0 ∧ x0 < 256) (hx1 : 0 ≤ x1 ∧ x1 < 256) (hx2 : 0 ≤ x2 ∧ x2 < 256) (hx3 : 0 ≤ x3 ∧ x3 < 256) (hx4 : 0 ≤ x4 ∧ x4 < 256) (hx5 : 0 ≤ x5 ∧ x5 < 256) (hy0 : 0 ≤ y0 ∧ y0 < 256) (hy1 : 0 ≤ y1 ∧ y1 < 256) (hy2 : 0 ≤ y2 ∧ y2 < 256) (hy3 : 0 ≤ y3 ∧ y3 < 256) (hy4 : 0 ≤ y4 ∧ y4 < 256) (hy5 : 0 ≤ y5 ∧ y5 < 256) : Lib.compareBytes (Lib.bytesOf [x0, x1, x2, x3, x4, x5]) (Lib.bytesOf [y0, y1, y2, y3, y4, y5]) = cmp6 x0 x1 x2 x3 x4 x5 y0 y1 y2 y3 y4 y5 := by
  rw [compareBytes_cons x0 y0 _ _ hx0 hy0, compareBytes_cons x1 y1 _ _ hx1 hy1, compareBytes_cons x2 y2 _ _ hx2 hy2, compareBytes_cons x3 y3 _ _ hx3 hy3, compareBytes_cons x4 y4 _ _ hx4 hy4, compareBytes_cons x5 y5 _ _ hx5 hy5]
  have e0 : Lib.compareBytes (Lib.bytesOf []) (Lib.bytesOf []) = cmpI 0 0 := rfl
  rw [e0, cmp_step 1 x5 y5 0 0 (by omega) (by omega), cmp_step 256 x4 y4 _ _ (by omega) (by omega), cmp_step 65536 x3 y3 _ _ (by omega) (by omega), cmp_step 16777216 x2 y2 _ _ (by omega) (by omega), cmp_step 4294967296 x1 y1 _ _ (by omega) (by omega), cmp_step 1099511627776 x0 y0 _ _ (by omega) (by omega)]
  unfold cmp6 num6
  congr 1 <;> omega

theorem run_compare {w : World} {args : Array Value} {v : Value} (h : (Extern.BytealgCompare.compare args).run Try.prog w = .ok v w) : (callFunc 29 args).run Try.prog w = .ok (.value v) w := by
  rw [run_callFunc_extern Try.func29 (by kernel_rfl) (by kernel_rfl) (by kernel_rfl) (e := Extern.BytealgCompare.compare) (by kernel_rfl), h]
  rfl

theorem bytesCompare_any (xs ys : List Int) (a b : Addr) (n m c d : Nat) (w : World) (hx : xs.length = n) (hy : ys.length = m) (ha : ∀ j x, xs[j]? = some x → w.cell? (a.add j) = some (.int .u8 x)) (hb : ∀ j x, ys[j]? = some x → w.cell? (b.add j) = some (.int .u8 x)) :
    Calls Try.prog 26 #[.slice (some a) n c, .slice (some b) m d] w fun e w' => e = .returned (.int .i64 (Lib.compareBytes (Lib.bytesOf xs) (Lib.bytesOf ys))) ∧ w' = w := by
  have hr := run_compare (run_compareRows w xs ys a b n m c d hx hy ha hb)
  clear hx hy ha hb
  go_enter Try.func26, Try.ntmps26
  go_wp2
  go_ret
  exact ⟨rfl, rfl⟩

theorem cells_block {w : World} {g t : Nat} {fr : Nat × Nat} {xs : List Int} (h : w.heap[g]? = some (.cells (xs.map (Value.int .u8)).toArray t fr)) : ∀ j x, xs[j]? = some x → w.cell? ((⟨g, 0, none⟩ : Addr).add j) = some (.int .u8 x) := by
  intro j x hj
  have e : (⟨g, 0, none⟩ : Addr).add j = ⟨g, j, none⟩ := by unfold Addr.add; split <;> simp_all
  rw [e, cell_of_row w g j _ t fr h]
  simp [hj]

set_option maxHeartbeats 400000 in
theorem compare_any (x0 x1 x2 x3 x4 x5 y0 y1 y2 y3 y4 y5 : Int) (w : World) (hx0 : 0 ≤ x0 ∧ x0 < 256) (hx1 : 0 ≤ x1 ∧ x1 < 256) (hx2 : 0 ≤ x2 ∧ x2 < 256) (hx3 : 0 ≤ x3 ∧ x3 < 256) (hx4 : 0 ≤ x4 ∧ x4 < 256) (hx5 : 0 ≤ x5 ∧ x5 < 256) (hy0 : 0 ≤ y0 ∧ y0 < 256) (hy1 : 0 ≤ y1 ∧ y1 < 256) (hy2 : 0 ≤ y2 ∧ y2 < 256) (hy3 : 0 ≤ y3 ∧ y3 < 256) (hy4 : 0 ≤ y4 ∧ y4 < 256) (hy5 : 0 ≤ y5 ∧ y5 < 256) :
    Calls Try.prog 19 #[.agg #[.int .u8 x0, .int .u8 x1, .int .u8 x2, .int .u8 x3, .int .u8 x4, .int .u8 x5], .agg #[.int .u8 y0, .int .u8 y1, .int .u8 y2, .int .u8 y3, .int .u8 y4, .int .u8 y5]] w fun e w' => e = .returned (.int .i64 (cmp6 x0 x1 x2 x3 x4 x5 y0 y1 y2 y3 y4 y5)) ∧ Below w.heap.size w w' := by
  have hc : ∀ k : Nat, Calls Try.prog 26 #[.slice (some ⟨w.heap.size, 0, none⟩) 6 6, .slice (some ⟨w.heap.size + 1, 0, none⟩) 6 6] (((w.alloc (.cells #[.int .u8 x0, .int .u8 x1, .int .u8 x2, .int .u8 x3, .int .u8 x4, .int .u8 x5] 23)).alloc (.cells #[.int .u8 y0, .int .u8 y1, .int .u8 y2, .int .u8 y3, .int .u8 y4, .int .u8 y5] 23)).drewN k) fun e w' => e = .returned (.int .i64 (cmp6 x0 x1 x2 x3 x4 x5 y0 y1 y2 y3 y4 y5)) ∧ w' = ((w.alloc (.cells #[.int .u8 x0, .int .u8 x1, .int .u8 x2, .int .u8 x3, .int .u8 x4, .int .u8 x5] 23)).alloc (.cells #[.int .u8 y0, .int .u8 y1, .int .u8 y2, .int .u8 y3, .int .u8 y4, .int .u8 y5] 23)).drewN k := fun k => by
    rw [← compare_num x0 x1 x2 x3 x4 x5 y0 y1 y2 y3 y4 y5 hx0 hx1 hx2 hx3 hx4 hx5 hy0 hy1 hy2 hy3 hy4 hy5]
    exact bytesCompare_any [x0, x1, x2, x3, x4, x5] [y0, y1, y2, y3, y4, y5] _ _ 6 6 6 6 _ rfl rfl (cells_block (t := 23) (fr := (0, 0)) (heap_alloc2_old _ _ _)) (cells_block (t := 23) (fr := (0, 0)) (heap_alloc2_new _ _ _))
  have HC := hide hc; clear hc
  go_enter Try.func19, Try.ntmps19
  go_wp2_with fail
  go_quiet ((go_at_call 26; exact Calls.quiet_of_same (HC.out _)))
  go_wp2
  go_ret
  exact ⟨rfl, below_dn (((Below.refl _ _).alloc (Nat.le_refl _) _).alloc (by simp) _) _⟩

set_option maxHeartbeats 400000 in
theorem refCompare_any (x0 x1 x2 x3 x4 x5 y0 y1 y2 y3 y4 y5 : Int) (w : World) (hx0 : 0 ≤ x0 ∧ x0 < 256) (hx1 : 0 ≤ x1 ∧ x1 < 256) (hx2 : 0 ≤ x2 ∧ x2 < 256) (hx3 : 0 ≤ x3 ∧ x3 < 256) (hx4 : 0 ≤ x4 ∧ x4 < 256) (hx5 : 0 ≤ x5 ∧ x5 < 256) (hy0 : 0 ≤ y0 ∧ y0 < 256) (hy1 : 0 ≤ y1 ∧ y1 < 256) (hy2 : 0 ≤ y2 ∧ y2 < 256) (hy3 : 0 ≤ y3 ∧ y3 < 256) (hy4 : 0 ≤ y4 ∧ y4 < 256) (hy5 : 0 ≤ y5 ∧ y5 < 256) :
    Calls Try.prog 22 #[.agg #[.int .u8 x0, .int .u8 x1, .int .u8 x2, .int .u8 x3, .int .u8 x4, .int .u8 x5], .agg #[.int .u8 y0, .int .u8 y1, .int .u8 y2, .int .u8 y3, .int .u8 y4, .int .u8 y5]] w fun e w' => e = .returned (.int .i64 (cmp6 x0 x1 x2 x3 x4 x5 y0 y1 y2 y3 y4 y5)) ∧ Below w.heap.size w w' := by
  have h0 : 0 ≤ num6 x0 x1 x2 x3 x4 x5 := by unfold num6; omega
  have h1 : 0 ≤ num6 y0 y1 y2 y3 y4 y5 := by unfold num6; omega
  have hcmp : (num6 x0 x1 x2 x3 x4 x5 < num6 y0 y1 y2 y3 y4 y5 ∧ cmp6 x0 x1 x2 x3 x4 x5 y0 y1 y2 y3 y4 y5 = -1) ∨ (¬ num6 x0 x1 x2 x3 x4 x5 < num6 y0 y1 y2 y3 y4 y5 ∧ num6 y0 y1 y2 y3 y4 y5 < num6 x0 x1 x2 x3 x4 x5 ∧ cmp6 x0 x1 x2 x3 x4 x5 y0 y1 y2 y3 y4 y5 = 1) ∨ (¬ num6 x0 x1 x2 x3 x4 x5 < num6 y0 y1 y2 y3 y4 y5 ∧ ¬ num6 y0 y1 y2 y3 y4 y5 < num6 x0 x1 x2 x3 x4 x5 ∧ cmp6 x0 x1 x2 x3 x4 x5 y0 y1 y2 y3 y4 y5 = 0) := by
    unfold cmp6 cmpI
    generalize num6 x0 x1 x2 x3 x4 x5 = a
    generalize num6 y0 y1 y2 y3 y4 y5 = b
    by_cases c1 : a < b
    · exact .inl ⟨c1, by rw [if_pos c1]⟩
    · by_cases c2 : b < a
      · exact .inr (.inl ⟨c1, c2, by rw [if_neg c1, if_neg (by omega)]⟩)
      · exact .inr (.inr ⟨c1, c2, by rw [if_neg c1, if_pos (by omega)]⟩)
  rcases hcmp with ⟨c1, c3⟩ | ⟨c1, c2, c3⟩ | ⟨c1, c2, c3⟩ <;> rw [c3] <;> clear c3
  all_goals
    go_enter Try.func22, Try.ntmps22
    go_wp2_with fail
    refine (refNumber_any x0 x1 x2 x3 x4 x5 _ hx0 hx1 hx2 hx3 hx4 hx5).mono ?_
    rintro e w' ⟨rfl, rfl⟩
    go_wp2_with fail
    refine (refNumber_any y0 y1 y2 y3 y4 y5 _ hy0 hy1 hy2 hy3 hy4 hy5).mono ?_
    rintro e w' ⟨rfl, rfl⟩
    go_wp2
    go_ret
    exact ⟨rfl, (by repeat (first | exact Below.refl _ _ | assumption | refine Below.alloc ?_ (by first | omega | (simp <;> omega)) _ | refine below_dn ?_ _ | refine Below.drew ?_))⟩
end Go.Proofs.Ytgklokpjfnpabaa

/-
  Which of two addresses is less (as the addresses' own claims have it); bits; whether one end knows the other one; which system is ahead.
-/
import Derived.Test.YtooieocfgifpgaaLpJ
import Derived.Lib.BytesEntry
import Derived.Laws.Bits64
namespace Go.Proofs.Ytooieocfgifpgaa
open Go.RowKit Go.WideShapes Go.ChangeShapes
set_option linter.unusedVariables false

def num6 (x0 x1 x2 x3 x4 x5 : Int) : Int := ((((x0 * 256 + x1) * 256 + x2) * 256 + x3) * 256 + x4) * 256 + x5
def cmpI (n m : Int) : Int := if n < m then -1 else if n = m then 0 else 1
def cmp6 (x0 x1 x2 x3 x4 x5 y0 y1 y2 y3 y4 y5 : Int) : Int := cmpI (num6 x0 x1 x2 x3 x4 x5) (num6 y0 y1 y2 y3 y4 y5)

set_option maxHeartbeats 400000 in
theorem refNumber_any (x0 x1 x2 x3 x4 x5 : Int) (w : World) (hx0 : 0 ≤ x0 ∧ x0 < 256) (hx1 : 0 ≤ x1 ∧ x1 < 256) (hx2 : 0 ≤ x2 ∧ x2 < 256) (hx3 : 0 ≤ x3 ∧ x3 < 256) (hx4 : 0 ≤ x4 ∧ x4 < 256) (hx5 : 0 ≤ x5 ∧ x5 < 256) :
    Calls Try.prog 65 #[.agg #[.int .u8 x0, .int .u8 x1, .int .u8 x2, .int .u8 x3, .int .u8 x4, .int .u8 x5]] w fun e w' => e = .returned (.int .u64 (num6 x0 x1 x2 x3 x4 x5)) ∧ w.alloc (.cells #[.int .u8 x0, .int .u8 x1, .int .u8 x2, .int .u8 x3, .int .u8 x4, .int .u8 x5] 23) = w' := by
  go_enter Try.func65, Try.ntmps65
  go_wp2
  refine wp_loop_rounds 7 ?_
  iterate 7
    rw [rounds_succ]
    go_wp2
  go_ret
  exact ⟨rfl, rfl⟩

theorem run_compareRows {P : Program} (w : World) (xs ys : List Int) (a b : Addr) (n m c d : Nat) (hx : xs.length = n) (hy : ys.length = m) (ha : ∀ j x, xs[j]? = some x → w.cell? (a.add j) = some (.int .u8 x)) (hb : ∀ j x, ys[j]? = some x → w.cell? (b.add j) = some (.int .u8 x)) :
    (Extern.BytealgCompare.compare #[.slice (some a) n c, .slice (some b) m d]).run P w = .ok (.int .i64 (Lib.compareBytes (Lib.bytesOf xs) (Lib.bytesOf ys))) w := by
  subst hx hy
  have h1 := Lib.run_loadBytesX (P := P) w xs a .empty ha
  have h2 := Lib.run_loadBytesX (P := P) w ys b .empty hb
  have e : ∀ l : List UInt8, (⟨ByteArray.empty.data ++ l.toArray⟩ : ByteArray) = ⟨l.toArray⟩ := fun l => by
    apply ByteArray.ext
    show (#[] : Array UInt8) ++ l.toArray = l.toArray
    simp
  rw [e] at h1 h2
  have hs := Lib.run_compareString (P := P) ⟨(Lib.bytesOf xs).toArray⟩ ⟨(Lib.bytesOf ys).toArray⟩ w
  change Sem.run P (do pure (goInt (Extern.BytealgCompare.cmp (← Extern.Bytes.bytesOf (.slice (some a) xs.length c)) (← Extern.Bytes.bytesOf (.slice (some b) ys.length d))))) w = _
  change Sem.run P (do pure (goInt (Extern.BytealgCompare.cmp (← Extern.Bytes.bytesOf (.string ⟨(Lib.bytesOf xs).toArray⟩)) (← Extern.Bytes.bytesOf (.string ⟨(Lib.bytesOf ys).toArray⟩))))) w = _ at hs
  simp only [Extern.Bytes.bytesOf, Sem.run_bind, Sem.run_pure, h1, h2, Result.andThen] at hs ⊢
  exact hs

theorem compareBytes_cons (x y : Int) (xs ys : List Int) (hx : 0 ≤ x ∧ x < 256) (hy : 0 ≤ y ∧ y < 256) :
    Lib.compareBytes (Lib.bytesOf (x :: xs)) (Lib.bytesOf (y :: ys)) = if x < y then -1 else if y < x then 1 else Lib.compareBytes (Lib.bytesOf xs) (Lib.bytesOf ys) := by
  have e : ∀ a b : Int, 0 ≤ a → a < 256 → 0 ≤ b → b < 256 → ((UInt8.ofNat a.toNat < UInt8.ofNat b.toNat) ↔ a < b) := fun a b h1 h2 h3 h4 => by
    rw [UInt8.lt_iff_toNat_lt, UInt8.toNat_ofNat', UInt8.toNat_ofNat']
    omega
  simp only [Lib.bytesOf, List.map_cons, Lib.compareBytes, e x y hx.1 hx.2 hy.1 hy.2, e y x hy.1 hy.2 hx.1 hx.2]

theorem cmp_step (K x y n m : Int) (hn : 0 ≤ n ∧ n < K) (hm : 0 ≤ m ∧ m < K) : (if x < y then -1 else if y < x then 1 else cmpI n m) = cmpI (x * K + n) (y * K + m) := by
  have hK : 0 ≤ K := by omega
  have key : ∀ a b : Int, a < b → a * K + K ≤ b * K := fun a b h => by
    have := Int.mul_le_mul_of_nonneg_right (show a + 1 ≤ b from h) hK
    rwa [Int.add_mul, Int.one_mul] at this
  unfold cmpI
  by_cases h1 : x < y
  · have := key x y h1
    rw [if_pos h1, if_pos (by omega)]
  · by_cases h2 : y < x
    · have := key y x h2
      rw [if_neg h1, if_pos h2, if_neg (by omega), if_neg (by omega)]
    · have e : x = y := by omega
      subst e
      rw [if_neg h1, if_neg h1]
      by_cases h3 : n < m
      · rw [if_pos h3, if_pos (by omega)]
      · by_cases h4 : n = m
        · subst h4; simp
        · rw [if_neg h3, if_neg h4, if_neg (by omega), if_neg (by omega)]

theorem compare_num (x0 x1 x2 x3 x4 x5 y0 y1 y2 y3 y4 y5 : Int) (hx0 : 0 ≤ x0 ∧ x0 < 256) (hx1 : 0 ≤ x1 ∧ x1 < 256) (hx2 : 0 ≤ x2 ∧ x2 < 256) (hx3 : 0 ≤ x3 ∧ x3 < 256) (hx4 : 0 ≤ x4 ∧ x4 < 256) (hx5 : 0 ≤ x5 ∧ x5 < 256) (hy0 : 0 ≤ y0 ∧ y0 < 256) (hy1 : 0 ≤ y1 ∧ y1 < 256) (hy2 : 0 ≤ y2 ∧ y2 < 256) (hy3 : 0 ≤ y3 ∧ y3 < 256) (hy4 : 0 ≤ y4 ∧ y4 < 256) (hy5 : 0 ≤ y5 ∧ y5 < 256) : Lib.compareBytes (Lib.bytesOf [x0, x1, x2, x3, x4, x5]) (Lib.bytesOf [y0, y1, y2, y3, y4, y5]) = cmp6 x0 x1 x2 x3 x4 x5 y0 y1 y2 y3 y4 y5 := by
  rw [compareBytes_cons x0 y0 _ _ hx0 hy0, compareBytes_cons x1 y1 _ _ hx1 hy1, compareBytes_cons x2 y2 _ _ hx2 hy2, compareBytes_cons x3 y3 _ _ hx3 hy3, compareBytes_cons x4 y4 _ _ hx4 hy4, compareBytes_cons x5 y5 _ _ hx5 hy5]
  have e0 : Lib.compareBytes (Lib.bytesOf []) (Lib.bytesOf []) = cmpI 0 0 := rfl
  rw [e0, cmp_step 1 x5 y5 0 0 (by omega) (by omega), cmp_step 256 x4 y4 _ _ (by omega) (by omega), cmp_step 65536 x3 y3 _ _ (by omega) (by omega), cmp_step 16777216 x2 y2 _ _ (by omega) (by omega), cmp_step 4294967296 x1 y1 _ _ (by omega) (by omega), cmp_step 1099511627776 x0 y0 _ _ (by omega) (by omega)]
  unfold cmp6 num6
  congr 1 <;> omega

theorem run_compare {w : World} {args : Array Value} {v : Value} (h : (Extern.BytealgCompare.compare args).run Try.prog w = .ok v w) : (callFunc 70 args).run Try.prog w = .ok (.value v) w := by
  rw [run_callFunc_extern Try.func70 (by kernel_rfl) (by kernel_rfl) (by kernel_rfl) (e := Extern.BytealgCompare.compare) (by kernel_rfl), h]
  rfl

theorem bytesCompare_any (xs ys : List Int) (a b : Addr) (n m c d : Nat) (w : World) (hx : xs.length = n) (hy : ys.length = m) (ha : ∀ j x, xs[j]? = some x → w.cell? (a.add j) = some (.int .u8 x)) (hb : ∀ j x, ys[j]? = some x → w.cell? (b.add j) = some (.int .u8 x)) :
    Calls Try.prog 64 #[.slice (some a) n c, .slice (some b) m d] w fun e w' => e = .returned (.int .i64 (Lib.compareBytes (Lib.bytesOf xs) (Lib.bytesOf ys))) ∧ w' = w := by
  have hr := run_compare (run_compareRows w xs ys a b n m c d hx hy ha hb)
  clear hx hy ha hb
  go_enter Try.func64, Try.ntmps64
  go_wp2
  go_ret
  exact ⟨rfl, rfl⟩

theorem cells_block {w : World} {g t : Nat} {fr : Nat × Nat} {xs : List Int} (h : w.heap[g]? = some (.cells (xs.map (Value.int .u8)).toArray t fr)) : ∀ j x, xs[j]? = some x → w.cell? ((⟨g, 0, none⟩ : Addr).add j) = some (.int .u8 x) := by
  intro j x hj
  have e : (⟨g, 0, none⟩ : Addr).add j = ⟨g, j, none⟩ := by unfold Addr.add; split <;> simp_all
  rw [e, cell_of_row w g j _ t fr h]
  simp [hj]

set_option maxHeartbeats 400000 in
theorem compare_any (x0 x1 x2 x3 x4 x5 y0 y1 y2 y3 y4 y5 : Int) (w : World) (hx0 : 0 ≤ x0 ∧ x0 < 256) (hx1 : 0 ≤ x1 ∧ x1 < 256) (hx2 : 0 ≤ x2 ∧ x2 < 256) (hx3 : 0 ≤ x3 ∧ x3 < 256) (hx4 : 0 ≤ x4 ∧ x4 < 256) (hx5 : 0 ≤ x5 ∧ x5 < 256) (hy0 : 0 ≤ y0 ∧ y0 < 256) (hy1 : 0 ≤ y1 ∧ y1 < 256) (hy2 : 0 ≤ y2 ∧ y2 < 256) (hy3 : 0 ≤ y3 ∧ y3 < 256) (hy4 : 0 ≤ y4 ∧ y4 < 256) (hy5 : 0 ≤ y5 ∧ y5 < 256) :
    Calls Try.prog 46 #[.agg #[.int .u8 x0, .int .u8 x1, .int .u8 x2, .int .u8 x3, .int .u8 x4, .int .u8 x5], .agg #[.int .u8 y0, .int .u8 y1, .int .u8 y2, .int .u8 y3, .int .u8 y4, .int .u8 y5]] w fun e w' => e = .returned (.int .i64 (cmp6 x0 x1 x2 x3 x4 x5 y0 y1 y2 y3 y4 y5)) ∧ Below w.heap.size w w' := by
  have hc : ∀ k : Nat, Calls Try.prog 64 #[.slice (some ⟨w.heap.size, 0, none⟩) 6 6, .slice (some ⟨w.heap.size + 1, 0, none⟩) 6 6] (((w.alloc (.cells #[.int .u8 x0, .int .u8 x1, .int .u8 x2, .int .u8 x3, .int .u8 x4, .int .u8 x5] 23)).alloc (.cells #[.int .u8 y0, .int .u8 y1, .int .u8 y2, .int .u8 y3, .int .u8 y4, .int .u8 y5] 23)).drewN k) fun e w' => e = .returned (.int .i64 (cmp6 x0 x1 x2 x3 x4 x5 y0 y1 y2 y3 y4 y5)) ∧ w' = ((w.alloc (.cells #[.int .u8 x0, .int .u8 x1, .int .u8 x2, .int .u8 x3, .int .u8 x4, .int .u8 x5] 23)).alloc (.cells #[.int .u8 y0, .int .u8 y1, .int .u8 y2, .int .u8 y3, .int .u8 y4, .int .u8 y5] 23)).drewN k := fun k => by
    rw [← compare_num x0 x1 x2 x3 x4 x5 y0 y1 y2 y3 y4 y5 hx0 hx1 hx2 hx3 hx4 hx5 hy0 hy1 hy2 hy3 hy4 hy5]
    exact bytesCompare_any [x0, x1, x2, x3, x4, x5] [y0, y1, y2, y3, y4, y5] _ _ 6 6 6 6 _ rfl rfl (cells_block (t := 23) (fr := (0, 0)) (heap_alloc2_old _ _ _)) (cells_block (t := 23) (fr := (0, 0)) (heap_alloc2_new _ _ _))
  have HC := hide hc; clear hc
  go_enter Try.func46, Try.ntmps46
  go_wp2_with fail
  go_quiet ((go_at_call 64; exact Calls.quiet_of_same (HC.out _)))
  go_wp2
  go_ret
  exact ⟨rfl, below_dn (((Below.refl _ _).alloc (Nat.le_refl _) _).alloc (by simp) _) _⟩

set_option maxHeartbeats 400000 in
theorem refCompare_any (x0 x1 x2 x3 x4 x5 y0 y1 y2 y3 y4 y5 : Int) (w : World) (hx0 : 0 ≤ x0 ∧ x0 < 256) (hx1 : 0 ≤ x1 ∧ x1 < 256) (hx2 : 0 ≤ x2 ∧ x2 < 256) (hx3 : 0 ≤ x3 ∧ x3 < 256) (hx4 : 0 ≤ x4 ∧ x4 < 256) (hx5 : 0 ≤ x5 ∧ x5 < 256) (hy0 : 0 ≤ y0 ∧ y0 < 256) (hy1 : 0 ≤ y1 ∧ y1 < 256) (hy2 : 0 ≤ y2 ∧ y2 < 256) (hy3 : 0 ≤ y3 ∧ y3 < 256) (hy4 : 0 ≤ y4 ∧ y4 < 256) (hy5 : 0 ≤ y5 ∧ y5 < 256) :
    Calls Try.prog 47 #[.agg #[.int .u8 x0, .int .u8 x1, .int .u8 x2, .int .u8 x3, .int .u8 x4, .int .u8 x5], .agg #[.int .u8 y0, .int .u8 y1, .int .u8 y2, .int .u8 y3, .int .u8 y4, .int .u8 y5]] w fun e w' => e = .returned (.int .i64 (cmp6 x0 x1 x2 x3 x4 x5 y0 y1 y2 y3 y4 y5)) ∧ Below w.heap.size w w' := by
  have h0 : 0 ≤ num6 x0 x1 x2 x3 x4 x5 := by unfold num6; omega
  have h1 : 0 ≤ num6 y0 y1 y2 y3 y4 y5 := by unfold num6; omega
  have hcmp : (num6 x0 x1 x2 x3 x4 x5 < num6 y0 y1 y2 y3 y4 y5 ∧ cmp6 x0 x1 x2 x3 x4 x5 y0 y1 y2 y3 y4 y5 = -1) ∨ (¬ num6 x0 x1 x2 x3 x4 x5 < num6 y0 y1 y2 y3 y4 y5 ∧ num6 y0 y1 y2 y3 y4 y5 < num6 x0 x1 x2 x3 x4 x5 ∧ cmp6 x0 x1 x2 x3 x4 x5 y0 y1 y2 y3 y4 y5 = 1) ∨ (¬ num6 x0 x1 x2 x3 x4 x5 < num6 y0 y1 y2 y3 y4 y5 ∧ ¬ num6 y0 y1 y2 y3 y4 y5 < num6 x0 x1 x2 x3 x4 x5 ∧ cmp6 x0 x1 x2 x3 x4 x5 y0 y1 y2 y3 y4 y5 = 0) := by
    unfold cmp6 cmpI
    generalize num6 x0 x1 x2 x3 x4 x5 = a
    generalize num6 y0 y1 y2 y3 y4 y5 = b
    by_cases c1 : a < b
    · exact .inl ⟨c1, by rw [if_pos c1]⟩
    · by_cases c2 : b < a
      · exact .inr (.inl ⟨c1, c2, by rw [if_neg c1, if_neg (by omega)]⟩)
      · exact .inr (.inr ⟨c1, c2, by rw [if_neg c1, if_pos (by omega)]⟩)
  rcases hcmp with ⟨c1, c3⟩ | ⟨c1, c2, c3⟩ | ⟨c1, c2, c3⟩ <;> rw [c3] <;> clear c3
  all_goals
    go_enter Try.func47, Try.ntmps47
    go_wp2_with fail
    refine (refNumber_any x0 x1 x2 x3 x4 x5 _ hx0 hx1 hx2 hx3 hx4 hx5).mono ?_
    rintro e w' ⟨rfl, rfl⟩
    go_wp2_with fail
    refine (refNumber_any y0 y1 y2 y3 y4 y5 _ hy0 hy1 hy2 hy3 hy4 hy5).mono ?_
    rintro e w' ⟨rfl, rfl⟩
    go_wp2
    go_ret
    exact ⟨rfl, (by repeat' (first | with_reducible exact Below.refl _ _ | with_reducible assumption | with_reducible refine Below.setCell ?_ ?_ _ | with_reducible refine Below.alloc ?_ ?_ _ | with_reducible refine below_dn ?_ _ | with_reducible refine Below.drew ?_ | omega | (simp; done) | (simp; omega)))⟩
/-! ### Bits -/
theorem ofInt_wrap (b : BitVec 64) : BitVec.ofInt 64 (IntKind.i64.wrap (b.toNat : Int)) = b := by
  apply BitVec.eq_of_toNat_eq
  rw [BitVec.toNat_ofInt, IntKind.wrap_i64]
  have := b.isLt
  omega
/-- Has a number a bit? -/
def hb (p : Int) (k : Nat) : Bool := (BitVec.ofInt 64 p).getLsbD k
theorem hb_and (x y : Int) (k : Nat) : hb (bits .and .i64 x y) k = (hb x k && hb y k) := by
  show (BitVec.ofInt 64 (IntKind.i64.wrap ((BitVec.ofInt 64 x &&& BitVec.ofInt 64 y).toNat : Int))).getLsbD k = _
  rw [ofInt_wrap, BitVec.getLsbD_and]; rfl
theorem hb_or (x y : Int) (k : Nat) : hb (bits .or .i64 x y) k = (hb x k || hb y k) := by
  show (BitVec.ofInt 64 (IntKind.i64.wrap ((BitVec.ofInt 64 x ||| BitVec.ofInt 64 y).toNat : Int))).getLsbD k = _
  rw [ofInt_wrap, BitVec.getLsbD_or]; rfl
theorem hb_xor (x y : Int) (k : Nat) : hb (bits .xor .i64 x y) k = (hb x k ^^ hb y k) := by
  show (BitVec.ofInt 64 (IntKind.i64.wrap ((BitVec.ofInt 64 x ^^^ BitVec.ofInt 64 y).toNat : Int))).getLsbD k = _
  rw [ofInt_wrap, BitVec.getLsbD_xor]; rfl
theorem hb_andNot (x y : Int) (k : Nat) (hk : k < 64) : hb (bits .andNot .i64 x y) k = (hb x k && !hb y k) := by
  show (BitVec.ofInt 64 (IntKind.i64.wrap ((BitVec.ofInt 64 x &&& ~~~BitVec.ofInt 64 y).toNat : Int))).getLsbD k = _
  rw [ofInt_wrap, BitVec.getLsbD_and, BitVec.getLsbD_not]
  simp [hk, hb]
/-- Two numbers with the same bits are one. -/
theorem hb_ext {x y : Int} (hx : -9223372036854775808 ≤ x ∧ x ≤ 9223372036854775807) (hy : -9223372036854775808 ≤ y ∧ y ≤ 9223372036854775807) (h : ∀ k, k < 64 → hb x k = hb y k) : x = y := by
  have e : BitVec.ofInt 64 x = BitVec.ofInt 64 y := BitVec.eq_of_getLsbD_eq (fun k hk => h k hk)
  have e2 := congrArg BitVec.toInt e
  rw [BitVec.toInt_ofInt, BitVec.toInt_ofInt, Int.bmod_def, Int.bmod_def] at e2
  omega
theorem bits_range (op : BinOp) (x y : Int) : -9223372036854775808 ≤ bits op .i64 x y ∧ bits op .i64 x y ≤ 9223372036854775807 := by
  unfold bits
  simp only [IntKind.wrap_i64]
  omega
theorem hb_lit {m : Int} {j : Nat} (hm : BitVec.ofInt 64 m = BitVec.twoPow 64 j) (hj : j < 64) (k : Nat) (hk : k < 64) : hb m k = decide (j = k) := by
  unfold hb
  rw [hm, BitVec.getLsbD_twoPow]
  simp [hj]
/-- 'p & bit'. -/
theorem and_bit {m : Int} {j : Nat} (hm : BitVec.ofInt 64 m = BitVec.twoPow 64 j) (hj : j < 64) (hr : -9223372036854775808 ≤ m ∧ m ≤ 9223372036854775807) (p : Int) : bits .and .i64 p m = if hb p j then m else 0 := by
  refine hb_ext (bits_range _ _ _) (by split <;> omega) fun k hk => ?_
  rw [hb_and, hb_lit hm hj k hk]
  by_cases h : j = k
  · subst h
    by_cases h2 : hb p j = true
    · rw [if_pos h2, hb_lit hm hj j hj]; simp [h2]
    · simp only [Bool.not_eq_true] at h2
      rw [h2]
      simp [hb]
  · simp only [h, decide_false, Bool.and_false]
    split
    · rw [hb_lit hm hj k hk]; simp [h]
    · simp [hb]
theorem bit1 : BitVec.ofInt 64 1 = BitVec.twoPow 64 0 := by decide
theorem bit2 : BitVec.ofInt 64 2 = BitVec.twoPow 64 1 := by decide
theorem bit4 : BitVec.ofInt 64 4 = BitVec.twoPow 64 2 := by decide
theorem bit8 : BitVec.ofInt 64 8 = BitVec.twoPow 64 3 := by decide
theorem bit16 : BitVec.ofInt 64 16 = BitVec.twoPow 64 4 := by decide
theorem bit32 : BitVec.ofInt 64 32 = BitVec.twoPow 64 5 := by decide
theorem bit64 : BitVec.ofInt 64 64 = BitVec.twoPow 64 6 := by decide
theorem bit128 : BitVec.ofInt 64 128 = BitVec.twoPow 64 7 := by decide
theorem and4 (p : Int) : bits .and .i64 p 4 = if hb p 2 then 4 else 0 := and_bit bit4 (by decide) (by decide) p
theorem and8 (p : Int) : bits .and .i64 p 8 = if hb p 3 then 8 else 0 := and_bit bit8 (by decide) (by decide) p

/-! ### Knows, Less -/
def Inf.bare (x : Inf) : Inf := { x with st := 0 }
def knows (p a : Inf) : Bool := eqI p.bare a.bare && ((hb p.st 2 == hb a.st 2) && (!hb p.st 3 || hb a.st 3))
def less (a b : Inf) : Bool := decide (a.sp < b.sp) || ((a.sp == b.sp) && decide (cmp6 a.m0 a.m1 a.m2 a.m3 a.m4 a.m5 b.m0 b.m1 b.m2 b.m3 b.m4 b.m5 < 0))
theorem many_eq (p a : Int) : (bits .and .i64 (bits .xor .i64 p a) 4 == 0) = (hb p 2 == hb a 2) := by
  rw [and4, hb_xor]
  cases hb p 2 <;> cases hb a 2 <;> decide
theorem sync_eq (p a : Int) : (bits .and .i64 (bits .andNot .i64 p a) 8 == 0) = (!hb p 3 || hb a 3) := by
  rw [and8, hb_andNot _ _ _ (by decide)]
  cases hb p 3 <;> cases hb a 3 <;> decide
end Go.Proofs.Ytooieocfgifpgaa

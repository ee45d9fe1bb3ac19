/-
  An address of a number: what the program's function and the reference's come to.
-/
import Derived.Test.YtgklokpjfnpabaaMacC
namespace Go.Proofs.Ytgklokpjfnpabaa
open Go.RowKit
set_option linter.unusedVariables false

theorem of_no (n : Int) (w : World) (h : 281474976710656 ≤ n) (h' : n ≤ 18446744073709551615) :
    Calls Try.prog 20 #[.int .u64 n] w fun e w' => e = .returned (.tuple #[.agg #[.int .u8 0, .int .u8 0, .int .u8 0, .int .u8 0, .int .u8 0, .int .u8 0], .int .i64 1]) ∧ Below w.heap.size w w' := by
  go_enter Try.func20, Try.ntmps20
  go_wp2
  refine bodyPost_ret (v := .tuple #[.agg #[.int .u8 0, .int .u8 0, .int .u8 0, .int .u8 0, .int .u8 0, .int .u8 0], .int .i64 1]) (by simp [results, Try.results20, go_sem]) rfl ⟨rfl, (by repeat (first | exact Below.refl _ _ | assumption | refine Below.alloc ?_ (by first | omega | (simp <;> omega)) _ | refine below_dn ?_ _ | refine Below.drew ?_))⟩

theorem refOf_no (n : Int) (w : World) (h : 281474976710656 ≤ n) (h' : n ≤ 18446744073709551615) :
    Calls Try.prog 21 #[.int .u64 n] w fun e w' => e = .returned (.tuple #[.agg #[.int .u8 0, .int .u8 0, .int .u8 0, .int .u8 0, .int .u8 0, .int .u8 0], .int .i64 1]) ∧ Below w.heap.size w w' := by
  go_enter Try.func21, Try.ntmps21
  go_wp2
  refine bodyPost_ret (v := .tuple #[.agg #[.int .u8 0, .int .u8 0, .int .u8 0, .int .u8 0, .int .u8 0, .int .u8 0], .int .i64 1]) (by simp [results, Try.results21, go_sem]) rfl ⟨rfl, (by repeat (first | exact Below.refl _ _ | assumption | refine Below.alloc ?_ (by first | omega | (simp <;> omega)) _ | refine below_dn ?_ _ | refine Below.drew ?_))⟩

set_option maxHeartbeats 400000 in
theorem of_yes (n : Int) (w : World) (h : 0 ≤ n) (h' : n < 281474976710656) :
    Calls Try.prog 20 #[.int .u64 n] w fun e w' => e = .returned (.tuple #[.agg #[.int .u8 (n / 1099511627776), .int .u8 (n / 4294967296 % 256), .int .u8 (n / 16777216 % 256), .int .u8 (n / 65536 % 256), .int .u8 (n / 256 % 256), .int .u8 (n % 256)], .int .i64 0]) ∧ Below w.heap.size w w' := by
  go_enter Try.func20, Try.ntmps20
  go_wp2
  refine wp_loop_rounds 7 ?_
  iterate 7
    rw [rounds_succ]
    go_wp2
  refine bodyPost_ret (v := .tuple #[.agg #[.int .u8 (n / 1099511627776), .int .u8 (n / 4294967296 % 256), .int .u8 (n / 16777216 % 256), .int .u8 (n / 65536 % 256), .int .u8 (n / 256 % 256), .int .u8 (n % 256)], .int .i64 0]) (by simp [results, Try.results20, go_sem]) rfl ⟨rfl, (by repeat (first | exact Below.refl _ _ | assumption | refine Below.alloc ?_ (by first | omega | (simp <;> omega)) _ | refine below_dn ?_ _ | refine Below.drew ?_))⟩

set_option maxHeartbeats 400000 in
theorem refOf_yes (n : Int) (w : World) (h : 0 ≤ n) (h' : n < 281474976710656) :
    Calls Try.prog 21 #[.int .u64 n] w fun e w' => e = .returned (.tuple #[.agg #[.int .u8 (n / 1099511627776), .int .u8 (n / 4294967296 % 256), .int .u8 (n / 16777216 % 256), .int .u8 (n / 65536 % 256), .int .u8 (n / 256 % 256), .int .u8 (n % 256)], .int .i64 0]) ∧ Below w.heap.size w w' := by
  have d2 : n / 256 / 256 = n / 65536 := by omega
  have d3 : n / 65536 / 256 = n / 16777216 := by omega
  have d4 : n / 16777216 / 256 = n / 4294967296 := by omega
  have d5 : n / 4294967296 / 256 = n / 1099511627776 := by omega
  have d6 : n / 1099511627776 % 256 = n / 1099511627776 := by omega
  go_enter Try.func21, Try.ntmps21
  go_wp2
  refine wp_loop_rounds 7 ?_
  iterate 7
    rw [rounds_succ]
    go_wp2
  refine bodyPost_ret (v := .tuple #[.agg #[.int .u8 (n / 1099511627776), .int .u8 (n / 4294967296 % 256), .int .u8 (n / 16777216 % 256), .int .u8 (n / 65536 % 256), .int .u8 (n / 256 % 256), .int .u8 (n % 256)], .int .i64 0]) (by simp [results, Try.results21, go_sem]) rfl ⟨rfl, (by repeat (first | exact Below.refl _ _ | assumption | refine Below.alloc ?_ (by first | omega | (simp <;> omega)) _ | refine below_dn ?_ _ | refine Below.drew ?_))⟩
end Go.Proofs.Ytgklokpjfnpabaa

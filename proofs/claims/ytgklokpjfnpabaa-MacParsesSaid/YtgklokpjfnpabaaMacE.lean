/-
  What a figure's sign stands for: the program's function and the reference's.
-/
import Derived.Test.YtgklokpjfnpabaaMacD
import Derived.Lib.SlBytesConst
namespace Go.Proofs.Ytgklokpjfnpabaa
open Go.RowKit
set_option linter.unusedVariables false

/-- A figure's value; -1: it is none. -/
def hexv (c : Int) : Int := if 48 ≤ c ∧ c ≤ 57 then c - 48 else if 97 ≤ c ∧ c ≤ 102 then c - 87 else -1
theorem hexv_bound (c : Int) : -1 ≤ hexv c ∧ hexv c < 16 := by
  unfold hexv
  split
  · omega
  · split <;> omega
theorem hexv_index (c : Int) (h : 0 ≤ c ∧ c < 256) : Lib.indexByte (Lib.bytesOf [48, 49, 50, 51, 52, 53, 54, 55, 56, 57, 97, 98, 99, 100, 101, 102]) c.toNat.toUInt8 = hexv c := by
  obtain ⟨n, rfl⟩ := Int.eq_ofNat_of_zero_le h.1
  have hn : n < 256 := by omega
  have key : ∀ m : Fin 256, Lib.indexByte (Lib.bytesOf [48, 49, 50, 51, 52, 53, 54, 55, 56, 57, 97, 98, 99, 100, 101, 102]) (m.val.toUInt8) = hexv ((m.val : Nat) : Int) := by decide +kernel
  exact key ⟨n, hn⟩

theorem run_index {w : World} {args : Array Value} {v : Value} (h : (Extern.BytealgIndexByte.indexByte args).run Try.prog w = .ok v w) : (callFunc 31 args).run Try.prog w = .ok (.value v) w := by
  rw [run_callFunc_extern Try.func31 (by kernel_rfl) (by kernel_rfl) (by kernel_rfl) (e := Extern.BytealgIndexByte.indexByte) (by kernel_rfl), h]
  rfl

theorem row_getD (xs : List Int) (i : Nat) (hi : i < xs.length) : ((xs.map (Value.int .u8)).toArray)[i]? = some (.int .u8 (xs.getD i 0)) := by simp [List.getElem?_eq_getElem hi]

theorem bytesIndex_any (g : Nat) (fr : Nat × Nat) (c : Int) (w : World) (h : 0 ≤ c ∧ c < 256)
    (hg : w.heap[g]? = some (.cells #[.int .u8 48, .int .u8 49, .int .u8 50, .int .u8 51, .int .u8 52, .int .u8 53, .int .u8 54, .int .u8 55, .int .u8 56, .int .u8 57, .int .u8 97, .int .u8 98, .int .u8 99, .int .u8 100, .int .u8 101, .int .u8 102] 5 fr)) :
    Calls Try.prog 30 #[.slice (some ⟨g, 0, none⟩) 16 16, .int .u8 c] w fun e w' => e = .returned (.int .i64 (hexv c)) ∧ w = w' := by
  have hr := run_index (Lib.run_indexByteSlice (P := Try.prog) w g 0 16 16 [48, 49, 50, 51, 52, 53, 54, 55, 56, 57, 97, 98, 99, 100, 101, 102] rfl (fun i hi => by
    rw [Nat.zero_add, cell_of_row w g i _ 5 fr hg]
    exact row_getD [48, 49, 50, 51, 52, 53, 54, 55, 56, 57, 97, 98, 99, 100, 101, 102] i hi) c)
  rw [hexv_index c h] at hr
  clear hg h
  go_enter Try.func30, Try.ntmps30
  go_wp2
  go_ret
  exact ⟨rfl, rfl⟩

theorem value_any (c : Int) (w : World) (h : 0 ≤ c ∧ c < 256) :
    Calls Try.prog 27 #[.int .u8 c] w fun e w' => e = .returned (.int .i64 (hexv c)) ∧ Below w.heap.size w w' := by
  have kc := fun (w : World) (C : Array Value) (n c : Nat) => Lib.run_convert_bytes_const (P := Try.prog) w 39 5 C n c Try.underlying39 Try.underlying5
  go_enter Try.func27, Try.ntmps27
  go_wp2_with fail
  refine (bytesIndex_any w.heap.size _ c _ h (heap_alloc_new _ _)).mono ?_
  rintro e w' ⟨rfl, rfl⟩
  go_wp2
  go_ret
  exact ⟨rfl, (by repeat (first | exact Below.refl _ _ | assumption | refine Below.alloc ?_ (by first | omega | (simp <;> omega)) _ | refine below_dn ?_ _ | refine Below.drew ?_))⟩

theorem fig_hexv (c : Int) (h : 0 ≤ c ∧ c < 256) (k : Nat) (hk : k < 16) (hno : ∀ j : Nat, j < k → ((fig j).toNat : Int) ≠ c) (e : ((fig k).toNat : Int) = c) : hexv c = k := by
  subst e
  have key : ∀ m : Fin 16, hexv ((fig ((m.val : Nat) : Int)).toNat : Int) = ((m.val : Nat) : Int) := by decide +kernel
  exact key ⟨k, hk⟩
theorem fig_none (c : Int) (h : 0 ≤ c ∧ c < 256) (hno : ∀ j : Nat, j < 16 → ((fig j).toNat : Int) ≠ c) : hexv c = -1 := by
  unfold hexv
  split
  · rename_i h1
    obtain ⟨n, hn⟩ := Int.eq_ofNat_of_zero_le (show 0 ≤ c - 48 by omega)
    have key : ∀ m : Fin 10, ((fig ((m.val : Nat) : Int)).toNat : Int) = 48 + ((m.val : Nat) : Int) := by decide +kernel
    exact absurd ((key ⟨n, by omega⟩).trans (by simp only; omega)) (hno n (by omega))
  · split
    · rename_i h1
      obtain ⟨n, hn⟩ := Int.eq_ofNat_of_zero_le (show 0 ≤ c - 97 by omega)
      have key : ∀ m : Fin 6, ((fig (((10 + m.val : Nat)) : Int)).toNat : Int) = 97 + ((m.val : Nat) : Int) := by decide +kernel
      exact absurd ((key ⟨n, by omega⟩).trans (by simp only; omega)) (hno (10 + n) (by omega))
    · rfl
end Go.Proofs.Ytgklokpjfnpabaa

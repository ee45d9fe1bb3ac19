/-
  ether: Right.
-/
import Derived.Test.YtehhldpmhlocdaaDoorTpB
namespace Go.Proofs.YtehhldpmhlocdaaDoor
open Go.RowKit Go.WideShapes Go.ChangeShapes
set_option linter.unusedVariables false

def tyBad (x : Fra) : Bool := decide (x.ty < 1536) || (decide (65535 < x.ty) || (decide (x.ty = 33024) || decide (1500 < x.n)))
def vlOk (x : Fra) : Bool := decide (0 ≤ x.vl) && (decide (x.vl ≤ 4094) && (decide (0 ≤ x.pr) && decide (x.pr ≤ 7)))
def rightF (x : Fra) : Bool := if tyBad x then false else if x.tg then vlOk x else (decide (x.vl = 0) && decide (x.pr = 0))

set_option maxRecDepth 100000 in
set_option maxHeartbeats 16000000 in
theorem right_any (x : Fra) (w : World) : Calls Tryd.prog 15 #[.agg #[.int .u8 (x.d0.toNat : Int), .int .u8 (x.d1.toNat : Int), .int .u8 (x.d2.toNat : Int), .int .u8 (x.d3.toNat : Int), .int .u8 (x.d4.toNat : Int), .int .u8 (x.d5.toNat : Int), .int .u8 (x.s0.toNat : Int), .int .u8 (x.s1.toNat : Int), .int .u8 (x.s2.toNat : Int), .int .u8 (x.s3.toNat : Int), .int .u8 (x.s4.toNat : Int), .int .u8 (x.s5.toNat : Int), .bool x.tg, .int .i64 x.vl, .int .i64 x.pr, .int .i64 x.ty, .slice x.A x.n x.cap]] w fun e w' => e = .returned (.bool (rightF x)) ∧ Below w.heap.size w w' := by
  have HBe := hide (fun o : Obj => (Below.refl w.heap.size w).alloc (Nat.le_refl _) o)
  obtain ⟨r, hr⟩ : ∃ r, r = rightF x := ⟨_, rfl⟩
  have HR := hide hr
  rw [← hr]
  clear hr
  go_enter Tryd.func15, Tryd.ntmps15
  by_cases h1 : x.ty < 1536
  · have HF := hide (show r = false by rw [HR.out]; simp [rightF, tyBad, h1])
    go_wp2_with fail
    go_ret
    exact ⟨by first | (simp [HF.out]; done) | simp [HF.out, h1], HBe.out _⟩
  by_cases h2 : 65535 < x.ty
  · have HF := hide (show r = false by rw [HR.out]; simp [rightF, tyBad, h1, h2])
    go_wp2_with fail
    go_ret
    exact ⟨by first | (simp [HF.out]; done) | simp [HF.out, h2], HBe.out _⟩
  by_cases h3 : x.ty = 33024
  · have HF := hide (show r = false by rw [HR.out]; simp [rightF, tyBad, h3])
    go_wp2_with fail
    go_ret
    exact ⟨by first | (simp [HF.out]; done) | simp [HF.out, h3], HBe.out _⟩
  by_cases h4 : 1500 < x.n
  · have h4i : (1500 : Int) < (x.n : Int) := by omega
    have HF := hide (show r = false by rw [HR.out]; simp [rightF, tyBad, h1, h2, h3, h4])
    go_wp2_with fail
    go_ret
    exact ⟨by first | (simp [HF.out]; done) | simp [HF.out, h4], HBe.out _⟩
  have h4i : ¬ (1500 : Int) < (x.n : Int) := by omega
  cases htg : x.tg
  · by_cases h5 : x.vl = 0
    rotate_left
    · have HF := hide (show r = false by rw [HR.out]; simp [rightF, tyBad, h1, h2, h3, h4, htg, h5])
      go_wp2_with fail
      go_ret
      exact ⟨by first | (simp [HF.out]; done) | simp [HF.out, h5], HBe.out _⟩
    by_cases h6 : x.pr = 0
    rotate_left
    · have HF := hide (show r = false by rw [HR.out]; simp [rightF, tyBad, h1, h2, h3, h4, htg, h5, h6])
      go_wp2_with fail
      go_ret
      exact ⟨by first | (simp [HF.out]; done) | simp [HF.out, h6], HBe.out _⟩
    have HF := hide (show r = true by rw [HR.out]; simp [rightF, tyBad, h1, h2, h3, h4, htg, h5, h6])
    go_wp2_with fail
    go_ret
    exact ⟨by first | (simp [HF.out]; done) | simp [HF.out, h6], HBe.out _⟩
  · by_cases h5 : 0 ≤ x.vl
    rotate_left
    · have HF := hide (show r = false by rw [HR.out]; simp [rightF, tyBad, vlOk, h1, h2, h3, h4, htg, h5])
      go_wp2_with fail
      go_ret
      exact ⟨by first | (simp [HF.out]; done) | simp [HF.out, h5], HBe.out _⟩
    by_cases h6 : x.vl ≤ 4094
    rotate_left
    · have HF := hide (show r = false by rw [HR.out]; simp [rightF, tyBad, vlOk, h1, h2, h3, h4, htg, h5, h6])
      go_wp2_with fail
      go_ret
      exact ⟨by first | (simp [HF.out]; done) | simp [HF.out, h6], HBe.out _⟩
    by_cases h7 : 0 ≤ x.pr
    rotate_left
    · have HF := hide (show r = false by rw [HR.out]; simp [rightF, tyBad, vlOk, h1, h2, h3, h4, htg, h5, h6, h7])
      go_wp2_with fail
      go_ret
      exact ⟨by first | (simp [HF.out]; done) | simp [HF.out, h7], HBe.out _⟩
    by_cases h8 : x.pr ≤ 7
    rotate_left
    · have HF := hide (show r = false by rw [HR.out]; simp [rightF, tyBad, vlOk, h1, h2, h3, h4, htg, h5, h6, h7, h8])
      go_wp2_with fail
      go_ret
      exact ⟨by first | (simp [HF.out]; done) | simp [HF.out, h8], HBe.out _⟩
    have HF := hide (show r = true by rw [HR.out]; simp [rightF, tyBad, vlOk, h1, h2, h3, h4, htg, h5, h6, h7, h8])
    go_wp2_with fail
    go_ret
    exact ⟨by first | (simp [HF.out]; done) | simp [HF.out, h8], HBe.out _⟩
end Go.Proofs.YtehhldpmhlocdaaDoor

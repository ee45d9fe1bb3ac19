/-
  Decode: the closure that recovers; guarded; Decode itself.
-/
import Derived.Test.YtooieocfgifpgaaLpQ
import Derived.Recover
import Derived.Defers
namespace Go.Proofs.Ytooieocfgifpgaa
open Go.RowKit Go.WideShapes Go.ChangeShapes
set_option linter.unusedVariables false

theorem assert_odd (w : World) : (Instr.typeAssert (.iface 91 (.agg #[])) 20 91 true).run Try.prog w = .ok (.tuple #[.agg #[], .bool true]) w := by kernel_rfl
theorem assert_nil (w : World) : (Instr.typeAssert .nilIface 20 91 true).run Try.prog w = .ok (.tuple #[.agg #[], .bool false]) w := by kernel_rfl

set_option maxHeartbeats 1000000 in
theorem catch_panicking (f : Nat) (x : Bool) (older : List PanicEntry) (w : World) (hc : w.cell? ⟨f, 0, none⟩ = some (.bool x)) (hz : w.frozen? ⟨f, 0, none⟩ = false) (hl : f < w.heap.size) :
    CallsD Try.prog 66 #[.pointer (some ⟨f, 0, none⟩)] (.panicking ({ v := .iface 91 (.agg #[]), recovered := false } :: older)) w fun e u' w' =>
      e = .returned (.tuple #[]) ∧ u' = .panicking ({ v := .iface 91 (.agg #[]), recovered := true } :: older) ∧ w' = (w.alloc (.cells #[] 91)).setCell ⟨f, 0, none⟩ (.bool false) := by
  refine callsD_of_wpS Try.func66 rfl fun c₀ cs hu => ?_
  apply wpS_seq
  apply wpS_region
  simp [wpOpsS, go_sem, recoverD, hu, Try.ntmps66, Exit.thenS, assert_odd, Array.replicate, List.replicate]
  apply wpS_seq
  apply wpS_region
  simp [wpOpsS, go_sem, Exit.thenS]
  refine wpS_cond (t := true) (by simp [Act.eval]) ?_
  simp only [if_true]
  apply wpS_region
  have hc1 : (w.alloc (.cells #[] 91)).cell? ⟨f, 0, none⟩ = some (.bool x) := ((Below.refl w.heap.size w).alloc (Nat.le_refl _) (.cells #[] 91)).cell (by exact hl) |>.trans hc
  have hz1 : (w.alloc (.cells #[] 91)).frozen? ⟨f, 0, none⟩ = false := ((Below.refl w.heap.size w).alloc (Nat.le_refl _) (.cells #[] 91)).frozen (by exact hl) |>.trans hz
  simp [wpOpsS, go_sem, hc1, hz1, bodyPostS, results, Try.results66]

set_option maxHeartbeats 1000000 in
theorem catch_idle (f : Nat) (w : World) :
    CallsD Try.prog 66 #[.pointer (some ⟨f, 0, none⟩)] .returning w fun e u' w' => e = .returned (.tuple #[]) ∧ u' = .returning ∧ w' = w.alloc (.cells #[] 91) := by
  refine callsD_of_wpS Try.func66 rfl fun c₀ cs hu => ?_
  apply wpS_seq
  apply wpS_region
  simp [wpOpsS, go_sem, recoverD, hu, Try.ntmps66, Exit.thenS, assert_nil, Array.replicate, List.replicate]
  apply wpS_seq
  apply wpS_region
  simp [wpOpsS, go_sem, Exit.thenS]
  refine wpS_cond (t := false) (by simp [Act.eval]) ?_
  simp only [Bool.false_eq_true, if_false]
  refine wpS_of_wp (wp_skip ?_)
  cases c₀
  simp_all [bodyPostS, results, Try.results66]

def GPost (rb lb B : Nat) (ys : List UInt8) (w : World) (e : Ending) (w' : World) : Prop :=
  (∃ (a p : Inf) (d : Int) (zs : List UInt8), a.wf ∧ a.fine ∧ p.wf ∧ p.fine ∧ (0 ≤ d ∧ d ≤ 65535) ∧ ys = encL a p d ++ zs ∧ e = .returned (.bool true) ∧ RdAt w' rb B zs ∧ w'.heap[lb]? = some (.cells #[.int .i64 a.sp, .int .u8 a.m0, .int .u8 a.m1, .int .u8 a.m2, .int .u8 a.m3, .int .u8 a.m4, .int .u8 a.m5, .int .i64 a.key, .int .i64 a.pp, .int .i64 a.port, .int .i64 a.st, .int .i64 p.sp, .int .u8 p.m0, .int .u8 p.m1, .int .u8 p.m2, .int .u8 p.m3, .int .u8 p.m4, .int .u8 p.m5, .int .i64 p.key, .int .i64 p.pp, .int .i64 p.port, .int .i64 p.st, .int .i64 d] 27 (0, 0)) ∧ Fr2 rb lb w w') ∨
  (¬ DecAt ys ∧ e = .returned (.bool false) ∧ Fr2 rb lb w w')

set_option maxRecDepth 100000 in
set_option maxHeartbeats 4000000 in
theorem guarded_any (rb lb B : Nat) (ys : List UInt8) (w : World) (hr : RdAt w rb B ys) (hl : w.heap[lb]? = some (.cells #[.int .i64 0, .int .u8 0, .int .u8 0, .int .u8 0, .int .u8 0, .int .u8 0, .int .u8 0, .int .i64 0, .int .i64 0, .int .i64 0, .int .i64 0, .int .i64 0, .int .u8 0, .int .u8 0, .int .u8 0, .int .u8 0, .int .u8 0, .int .u8 0, .int .i64 0, .int .i64 0, .int .i64 0, .int .i64 0, .int .i64 0] 27 (0, 0))) (hne : lb ≠ rb) (hBl : B ≤ lb) :
    Calls Try.prog 48 #[.func (.func 49) #[] #[.pointer (some ⟨rb, 0, none⟩), .pointer (some ⟨lb, 0, none⟩)]] w (GPost rb lb B ys w) := by
  have hmf : ∀ (fn : Fn) (first cap : Array Value) (w : World), (Instr.makeFunc fn first cap).run Try.prog w = .ok (.func fn first cap) w := fun _ _ _ _ => rfl
  have hrl := hr.lt
  have hll : lb < w.heap.size := (Array.getElem?_eq_some_iff.1 hl).1
  have HR1 := hide (hr.below ((Below.refl _ w).alloc (Nat.le_refl _) (.cells #[.bool false] 4)))
  have HL1 := hide (show (w.alloc (.cells #[.bool false] 4)).heap[lb]? = _ from (Below.heap_alloc w _ _ hll).trans hl)
  have HF1 := hide (heap_alloc_new w (.cells #[.bool false] 4))
  have HB1 := hide ((Fr2.refl rb lb w).alloc (.cells #[.bool false] 4))
  clear hr hl
  go_enter_defers Try.func48, Try.ntmps48
  go_wp2_with fail
  refine (dec1_any rb lb B ys _ HR1.out HL1.out hne hBl).mono ?_
  rintro e u2 (⟨a, p, d, zs, k1, k2, k3, k4, k5, k6, rfl, hd2, hl2, hb2⟩ | ⟨hno, rfl, hb2⟩)
  · have HK := hide (And.intro k1 (And.intro k2 (And.intro k3 (And.intro k4 (And.intro k5 k6)))))
    have hz2 := hb2.size
    simp at hz2
    have HF2 := hide ((hb2.block w.heap.size (by simp) (by omega) (by omega)).trans HF1.out)
    have c2 : u2.cell? ⟨w.heap.size, 0, none⟩ = some (.bool false) := cell_of_row u2 _ 0 _ 4 (0, 0) HF2.out
    have z2 : u2.frozen? ⟨w.heap.size, 0, none⟩ = false := frozen_of_row u2 _ 0 _ 4 HF2.out
    have HD2 := hide hd2; have HL2 := hide hl2
    have HB2 := hide (show Fr2 rb lb w u2 from ⟨hb2.os.trans HB1.out.os, hb2.tape.trans HB1.out.tape, hb2.output.trans HB1.out.output, Nat.le_trans HB1.out.size hb2.size, fun k hk h1 h2 => (hb2.block k (by simp; omega) h1 h2).trans (HB1.out.block k hk h1 h2)⟩)
    clear hd2 hl2 hb2 k1 k2 k3 k4 k5 k6 HR1 HL1 HB1 HF1
    go_wp2_with fail
    refine leaves_cons (f := 66) (args := #[.pointer (some ⟨w.heap.size, 0, none⟩)]) (by simp) (by simp [go_sem]) ?_
    refine (catch_idle w.heap.size _).mono ?_
    rintro e u' w'' ⟨rfl, rfl, rfl⟩
    have c3 : ((u2.setCell ⟨w.heap.size, 0, none⟩ (.bool true)).alloc (.cells #[] 91)).cell? ⟨w.heap.size, 0, none⟩ = some (.bool true) := by
      rw [((Below.refl _ (u2.setCell ⟨w.heap.size, 0, none⟩ (.bool true))).alloc (Nat.le_refl _) (.cells #[] 91)).cell (by show w.heap.size < _; simp; omega)]
      exact cell_of_row _ _ 0 _ 4 (0, 0) (heap_setCell_same u2 _ 0 _ 4 (.bool true) HF2.out)
    simp [Leaves, settle, results, Try.results48, go_sem, c3]
    obtain ⟨k1, k2, k3, k4, k5, k6⟩ := HK.out
    have hfp : Frm u2 (u2.setCell ⟨w.heap.size, 0, none⟩ (.bool true)) w.heap.size := (Frm.refl u2 _).put 0 _
    have hff := hfp.alloc (.cells #[] 91)
    refine .inl ⟨a, p, d, zs, k1, k2, k3, k4, k5, k6, rfl, HD2.out.frm hff (by omega) (by omega), hff.keep HL2.out (by omega), HB2.out.frm hff (.inr (.inr (by omega)))⟩
  · have hz2 := hb2.size
    simp at hz2
    have HF2 := hide ((hb2.block w.heap.size (by simp) (by omega) (by omega)).trans HF1.out)
    have c2 : u2.cell? ⟨w.heap.size, 0, none⟩ = some (.bool false) := cell_of_row u2 _ 0 _ 4 (0, 0) HF2.out
    have z2 : u2.frozen? ⟨w.heap.size, 0, none⟩ = false := frozen_of_row u2 _ 0 _ 4 HF2.out
    have HB2 := hide (show Fr2 rb lb w u2 from ⟨hb2.os.trans HB1.out.os, hb2.tape.trans HB1.out.tape, hb2.output.trans HB1.out.output, Nat.le_trans HB1.out.size hb2.size, fun k hk h1 h2 => (hb2.block k (by simp; omega) h1 h2).trans (HB1.out.block k hk h1 h2)⟩)
    clear hb2 HR1 HL1 HB1 HF1
    try (go_wp2_with fail)
    refine leaves_cons (f := 66) (args := #[.pointer (some ⟨w.heap.size, 0, none⟩)]) (by simp) (by simp [go_sem]) ?_
    refine (catch_panicking w.heap.size false [] _ c2 z2 (by omega)).mono ?_
    rintro e u' w'' ⟨rfl, rfl, rfl⟩
    have hfp : Frm u2 ((u2.alloc (.cells #[] 91)).setCell ⟨w.heap.size, 0, none⟩ (.bool false)) w.heap.size := ((Frm.refl u2 _).alloc _).put 0 _
    have c3 : ((u2.alloc (.cells #[] 91)).setCell ⟨w.heap.size, 0, none⟩ (.bool false)).cell? ⟨w.heap.size, 0, none⟩ = some (.bool false) :=
      cell_of_row _ _ 0 _ 4 (0, 0) (heap_setCell_same _ _ 0 _ 4 (.bool false) ((Below.heap_alloc u2 _ _ (by omega)).trans HF2.out))
    simp [Leaves, settle, results, Try.results48, go_sem, c3]
    exact .inr ⟨hno, rfl, HB2.out.frm hfp (.inr (.inr (by omega)))⟩
end Go.Proofs.Ytooieocfgifpgaa

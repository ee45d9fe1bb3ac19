/-
  One end of a link: New; a step at both; the fixed actor.
-/
import Derived.Test.YtooieocfgifpgaaRxE
namespace Go.Proofs.Ytooieocfgifpgaa
open Go.RowKit Go.WideShapes Go.ChangeShapes
set_option linter.unusedVariables false

def NewPost (t : Nat) (a : Inf) (w : World) (e : Ending) (w' : World) : Prop :=
  (okNew a = true ∧ ∃ g, e = .returned (.tuple #[.pointer (some ⟨g, 0, none⟩), .int .i64 0]) ∧ w.heap.size ≤ g ∧ EndAt w' g t (ES.new a) ∧ Below w.heap.size w w') ∨
  (okNew a = false ∧ e = .returned (.tuple #[.pointer none, .int .i64 1]) ∧ Below w.heap.size w w')

set_option maxRecDepth 100000 in
set_option maxHeartbeats 4000000 in
theorem new_any (a : Inf) (w : World) : Calls Try.prog 26 #[.agg #[.int .i64 a.sp, .int .u8 a.m0, .int .u8 a.m1, .int .u8 a.m2, .int .u8 a.m3, .int .u8 a.m4, .int .u8 a.m5, .int .i64 a.key, .int .i64 a.pp, .int .i64 a.port, .int .i64 a.st]] w (NewPost 81 a w) := by
  have hk : okNew a = (a.ok && (bits .andNot .i64 a.st 7 == 0)) := rfl
  have hr : ∀ u, Calls Try.prog 17 #[.agg #[.int .i64 a.sp, .int .u8 a.m0, .int .u8 a.m1, .int .u8 a.m2, .int .u8 a.m3, .int .u8 a.m4, .int .u8 a.m5, .int .i64 a.key, .int .i64 a.pp, .int .i64 a.port, .int .i64 a.st, .int .i64 0, .int .u8 0, .int .u8 0, .int .u8 0, .int .u8 0, .int .u8 0, .int .u8 0, .int .i64 0, .int .i64 0, .int .i64 0, .int .i64 0, .int .i64 0]] u fun e w' => e = .returned (.bool a.ok) ∧ Below u.heap.size u w' := fun u => by
    have h := right_any a Inf.zero 0 u
    rw [show okL a Inf.zero 0 = a.ok by simp [okL, Inf.zero, Inf.ok, inW]] at h
    exact h
  generalize a.ok = B1 at hk hr
  obtain ⟨B2, h2⟩ : ∃ B, (bits .andNot .i64 a.st 7 == 0) = B := ⟨_, rfl⟩
  rw [h2] at hk
  have e2 := ne_of h2
  have HK := hide hk; have HR := hide hr
  have HB0 := hide (heap_alloc_new w (.cells #[.int .i64 a.sp, .int .u8 a.m0, .int .u8 a.m1, .int .u8 a.m2, .int .u8 a.m3, .int .u8 a.m4, .int .u8 a.m5, .int .i64 a.key, .int .i64 a.pp, .int .i64 a.port, .int .i64 a.st] 25))
  clear hk hr h2
  go_enter Try.func26, Try.ntmps26
  go_wp2_with (refine wpList_load_part rfl 25 (.tmp 1) rfl w.heap.size 0 rfl 25 _ #[.int .i64 a.sp, .int .u8 a.m0, .int .u8 a.m1, .int .u8 a.m2, .int .u8 a.m3, .int .u8 a.m4, .int .u8 a.m5, .int .i64 a.key, .int .i64 a.pp, .int .i64 a.port, .int .i64 a.st] (0, 0) _ HB0.out Try.underlying25 rfl (by kernel_rfl) rfl ?_)
  refine (HR.out _).mono ?_
  rintro e w1 ⟨rfl, hb1⟩
  have HB1 := hide (((Below.refl w.heap.size w).alloc (Nat.le_refl _) (.cells #[.int .i64 a.sp, .int .u8 a.m0, .int .u8 a.m1, .int .u8 a.m2, .int .u8 a.m3, .int .u8 a.m4, .int .u8 a.m5, .int .i64 a.key, .int .i64 a.pp, .int .i64 a.port, .int .i64 a.st] 25)).trans (hb1.mono (by simp)))
  have HK1 := hide ((hb1.block w.heap.size (by simp)).trans HB0.out)
  have hs1 : w.heap.size < w1.heap.size := by have := hb1.size; simp at this; omega
  clear hb1
  have c10 : w1.cell? ⟨w.heap.size, 10, none⟩ = some (.int .i64 a.st) := cell_of_row w1 _ 10 _ 25 (0, 0) HK1.out
  cases B1
  · go_wp2_with fail
    go_ret2
    exact .inr ⟨HK.out, rfl, HB1.out⟩
  cases B2
  · simp only [Bool.not_false] at e2
    go_wp2_with fail
    go_ret2
    exact .inr ⟨HK.out, rfl, HB1.out⟩
  · simp only [Bool.not_true] at e2
    go_wp2_with (refine wpList_load_part rfl 25 (.tmp 1) rfl w.heap.size 0 rfl 25 _ #[.int .i64 a.sp, .int .u8 a.m0, .int .u8 a.m1, .int .u8 a.m2, .int .u8 a.m3, .int .u8 a.m4, .int .u8 a.m5, .int .i64 a.key, .int .i64 a.pp, .int .i64 a.port, .int .i64 a.st] (0, 0) _ HK1.out Try.underlying25 rfl (by kernel_rfl) rfl ?_)
    go_ret2
    exact .inl ⟨HK.out, w1.heap.size, rfl, by omega, heap_alloc_new _ _, HB1.out.alloc HB1.out.size _⟩

set_option maxRecDepth 100000 in
set_option maxHeartbeats 4000000 in
theorem refNew_any (a : Inf) (w : World) : Calls Try.prog 27 #[.agg #[.int .i64 a.sp, .int .u8 a.m0, .int .u8 a.m1, .int .u8 a.m2, .int .u8 a.m3, .int .u8 a.m4, .int .u8 a.m5, .int .i64 a.key, .int .i64 a.pp, .int .i64 a.port, .int .i64 a.st]] w (NewPost 53 a w) := by
  have hk : okNew a = (a.ok && (bits .andNot .i64 a.st 7 == 0)) := rfl
  have hr : ∀ u, Calls Try.prog 18 #[.agg #[.int .i64 a.sp, .int .u8 a.m0, .int .u8 a.m1, .int .u8 a.m2, .int .u8 a.m3, .int .u8 a.m4, .int .u8 a.m5, .int .i64 a.key, .int .i64 a.pp, .int .i64 a.port, .int .i64 a.st, .int .i64 0, .int .u8 0, .int .u8 0, .int .u8 0, .int .u8 0, .int .u8 0, .int .u8 0, .int .i64 0, .int .i64 0, .int .i64 0, .int .i64 0, .int .i64 0]] u fun e w' => e = .returned (.bool a.ok) ∧ Below u.heap.size u w' := fun u => by
    have h := refRight_any a Inf.zero 0 u
    rw [show okL a Inf.zero 0 = a.ok by simp [okL, Inf.zero, Inf.ok, inW]] at h
    exact h
  generalize a.ok = B1 at hk hr
  obtain ⟨B2, h2⟩ : ∃ B, (bits .andNot .i64 a.st 7 == 0) = B := ⟨_, rfl⟩
  rw [h2] at hk
  have e2 := ne_of h2
  have HK := hide hk; have HR := hide hr
  have HB0 := hide (heap_alloc_new w (.cells #[.int .i64 a.sp, .int .u8 a.m0, .int .u8 a.m1, .int .u8 a.m2, .int .u8 a.m3, .int .u8 a.m4, .int .u8 a.m5, .int .i64 a.key, .int .i64 a.pp, .int .i64 a.port, .int .i64 a.st] 25))
  clear hk hr h2
  go_enter Try.func27, Try.ntmps27
  go_wp2_with (refine wpList_load_part rfl 25 (.tmp 1) rfl w.heap.size 0 rfl 25 _ #[.int .i64 a.sp, .int .u8 a.m0, .int .u8 a.m1, .int .u8 a.m2, .int .u8 a.m3, .int .u8 a.m4, .int .u8 a.m5, .int .i64 a.key, .int .i64 a.pp, .int .i64 a.port, .int .i64 a.st] (0, 0) _ HB0.out Try.underlying25 rfl (by kernel_rfl) rfl ?_)
  refine (HR.out _).mono ?_
  rintro e w1 ⟨rfl, hb1⟩
  have HB1 := hide (((Below.refl w.heap.size w).alloc (Nat.le_refl _) (.cells #[.int .i64 a.sp, .int .u8 a.m0, .int .u8 a.m1, .int .u8 a.m2, .int .u8 a.m3, .int .u8 a.m4, .int .u8 a.m5, .int .i64 a.key, .int .i64 a.pp, .int .i64 a.port, .int .i64 a.st] 25)).trans (hb1.mono (by simp)))
  have HK1 := hide ((hb1.block w.heap.size (by simp)).trans HB0.out)
  have hs1 : w.heap.size < w1.heap.size := by have := hb1.size; simp at this; omega
  clear hb1
  have c10 : w1.cell? ⟨w.heap.size, 10, none⟩ = some (.int .i64 a.st) := cell_of_row w1 _ 10 _ 25 (0, 0) HK1.out
  cases B1
  · go_wp2_with fail
    go_ret2
    exact .inr ⟨HK.out, rfl, HB1.out⟩
  cases B2
  · simp only [Bool.not_false] at e2
    go_wp2_with fail
    go_ret2
    exact .inr ⟨HK.out, rfl, HB1.out⟩
  · simp only [Bool.not_true] at e2
    go_wp2_with (refine wpList_load_part rfl 25 (.tmp 1) rfl w.heap.size 0 rfl 25 _ #[.int .i64 a.sp, .int .u8 a.m0, .int .u8 a.m1, .int .u8 a.m2, .int .u8 a.m3, .int .u8 a.m4, .int .u8 a.m5, .int .i64 a.key, .int .i64 a.pp, .int .i64 a.port, .int .i64 a.st] (0, 0) _ HK1.out Try.underlying25 rfl (by kernel_rfl) rfl ?_)
    go_ret2
    exact .inl ⟨HK.out, w1.heap.size, rfl, by omega, heap_alloc_new _ _, HB1.out.alloc HB1.out.size _⟩

/-! ### A step at both -/
structure Two (w w' : World) (g h : Nat) : Prop where
  os : w'.os = w.os
  tape : w'.tape = w.tape
  output : w'.output = w.output
  size : w.heap.size ≤ w'.heap.size
  block : ∀ k, k < w.heap.size → k ≠ g → k ≠ h → w'.heap[k]? = w.heap[k]?
theorem Two.refl (w : World) (g h : Nat) : Two w w g h := ⟨rfl, rfl, rfl, Nat.le_refl _, fun _ _ _ _ => rfl⟩
theorem Two.trans {w w1 w2 : World} {g h : Nat} (a : Two w w1 g h) (b : Two w1 w2 g h) : Two w w2 g h :=
  ⟨b.os.trans a.os, b.tape.trans a.tape, b.output.trans a.output, Nat.le_trans a.size b.size, fun k hk h1 h2 => (b.block k (Nat.lt_of_lt_of_le hk a.size) h1 h2).trans (a.block k hk h1 h2)⟩
theorem Two.l {w w1 : World} {g h : Nat} (a : Frm w w1 g) : Two w w1 g h := ⟨a.os, a.tape, a.output, a.size, fun k hk h1 _ => a.block k hk (by intro e; injection e with e; exact h1 e)⟩
theorem Two.r {w w1 : World} {g h : Nat} (a : Frm w w1 h) : Two w w1 g h := ⟨a.os, a.tape, a.output, a.size, fun k hk _ h2 => a.block k hk (by intro e; injection e with e; exact h2 e)⟩
theorem Two.of_below {w w1 : World} (g h : Nat) (a : Below w.heap.size w w1) : Two w w1 g h := ⟨a.os, a.tape, a.output, a.size, fun k hk _ _ => a.block k hk⟩
theorem Two.toBelow {w w1 : World} {g h B : Nat} (a : Two w w1 g h) (hg : B ≤ g) (hh : B ≤ h) (hB : B ≤ w.heap.size) : Below B w w1 := ⟨a.os, a.tape, a.output, a.size, fun k hk => a.block k (by omega) (by omega) (by omega)⟩
theorem Two.keep {w w1 : World} {g h b : Nat} {x : Obj} (a : Two w w1 g h) (hb : w.heap[b]? = some x) (h1 : b ≠ g) (h2 : b ≠ h) : w1.heap[b]? = some x := (a.block b (Array.getElem?_eq_some_iff.1 hb).1 h1 h2).trans hb

structure SV where
  op : Int
  now : Int
  n : Int
  is : Bool
  la : Inf
  lp : Inf
  d : Int
def ES.step (x : ES) (s : SV) : ES := if s.op = 0 then x.take s.la s.lp s.d s.now else if s.op = 1 then x.tick s.now else if s.op = 2 then x.enable s.is s.now else x.mux s.n
theorem fine_expire {x : ES} {now : Int} (h : inW 1099511627776 now = true) : (x.expire now).fine := ⟨⟨by show (0 : Int) ≤ 1; decide, by show (1 : Int) ≤ 3; decide⟩, (inW_iff _ _).1 h⟩
theorem fine_step {x : ES} (h : x.fine) (s : SV) : (x.step s).fine := by
  unfold ES.step
  split
  · unfold ES.take
    split
    · rename_i hE
      refine ⟨⟨by show (0 : Int) ≤ 3; decide, by show (3 : Int) ≤ 3; decide⟩, ?_⟩
      unfold ES.takeE at hE
      split at hE
      · rename_i hi
        exact (inW_iff _ _).1 hi
      · cases hE
    · exact h
  split
  · unfold ES.tick
    split
    · rename_i hi
      split
      · exact h
      · split
        · exact fine_expire hi
        · split
          · exact ⟨⟨by show (0 : Int) ≤ 2; decide, by show (2 : Int) ≤ 3; decide⟩, h.f⟩
          · exact h
    · exact h
  split
  · unfold ES.enable
    split
    · rename_i hi
      split
      · split
        · exact fine_expire hi
        · exact h
      · exact ⟨⟨by show (0 : Int) ≤ 0; decide, by show (0 : Int) ≤ 3; decide⟩, h.f⟩
    · exact h
  · unfold ES.mux
    split
    · exact ⟨h.s, h.f⟩
    · exact h
theorem fine_new (a : Inf) : (ES.new a).fine := ⟨⟨by show (0 : Int) ≤ 0; decide, by show (0 : Int) ≤ 3; decide⟩, by show (0 : Int) ≤ 0; decide, by show (0 : Int) ≤ 1099511627776; decide⟩

def StepPost (g h : Nat) (x : ES) (s : SV) (w : World) (e : Ending) (w' : World) : Prop := e = .returned (.bool true) ∧ EndAt w' g 81 (x.step s) ∧ EndAt w' h 53 (x.step s) ∧ Two w w' g h
set_option maxRecDepth 100000 in
set_option maxHeartbeats 8000000 in
theorem step_any (g h : Nat) (x : ES) (s : SV) (w : World) (hf : x.fine) (hne : g ≠ h) (hg : EndAt w g 81 x) (hh : EndAt w h 53 x) :
    Calls Try.prog 28 #[.pointer (some ⟨g, 0, none⟩), .pointer (some ⟨h, 0, none⟩), .agg #[.int .i64 s.op, .int .i64 s.now, .int .i64 s.n, .bool s.is, .int .i64 s.la.sp, .int .u8 s.la.m0, .int .u8 s.la.m1, .int .u8 s.la.m2, .int .u8 s.la.m3, .int .u8 s.la.m4, .int .u8 s.la.m5, .int .i64 s.la.key, .int .i64 s.la.pp, .int .i64 s.la.port, .int .i64 s.la.st, .int .i64 s.lp.sp, .int .u8 s.lp.m0, .int .u8 s.lp.m1, .int .u8 s.lp.m2, .int .u8 s.lp.m3, .int .u8 s.lp.m4, .int .u8 s.lp.m5, .int .i64 s.lp.key, .int .i64 s.lp.pp, .int .i64 s.lp.port, .int .i64 s.lp.st, .int .i64 s.d]] w (StepPost g h x s w) := by
  have hgl := hg.lt; have hhl := hh.lt
  obtain ⟨n, hn⟩ : ∃ n, n = w.heap.size := ⟨_, rfl⟩
  have HG0 := hide (show EndAt (w.alloc (.cells #[.int .i64 s.op, .int .i64 s.now, .int .i64 s.n, .bool s.is, .int .i64 s.la.sp, .int .u8 s.la.m0, .int .u8 s.la.m1, .int .u8 s.la.m2, .int .u8 s.la.m3, .int .u8 s.la.m4, .int .u8 s.la.m5, .int .i64 s.la.key, .int .i64 s.la.pp, .int .i64 s.la.port, .int .i64 s.la.st, .int .i64 s.lp.sp, .int .u8 s.lp.m0, .int .u8 s.lp.m1, .int .u8 s.lp.m2, .int .u8 s.lp.m3, .int .u8 s.lp.m4, .int .u8 s.lp.m5, .int .i64 s.lp.key, .int .i64 s.lp.pp, .int .i64 s.lp.port, .int .i64 s.lp.st, .int .i64 s.d] 50)) g 81 x from (Below.heap_alloc w _ g hgl).trans hg)
  have HH0 := hide (show EndAt (w.alloc (.cells #[.int .i64 s.op, .int .i64 s.now, .int .i64 s.n, .bool s.is, .int .i64 s.la.sp, .int .u8 s.la.m0, .int .u8 s.la.m1, .int .u8 s.la.m2, .int .u8 s.la.m3, .int .u8 s.la.m4, .int .u8 s.la.m5, .int .i64 s.la.key, .int .i64 s.la.pp, .int .i64 s.la.port, .int .i64 s.la.st, .int .i64 s.lp.sp, .int .u8 s.lp.m0, .int .u8 s.lp.m1, .int .u8 s.lp.m2, .int .u8 s.lp.m3, .int .u8 s.lp.m4, .int .u8 s.lp.m5, .int .i64 s.lp.key, .int .i64 s.lp.pp, .int .i64 s.lp.port, .int .i64 s.lp.st, .int .i64 s.d] 50)) h 53 x from (Below.heap_alloc w _ h hhl).trans hh)
  have HN0 := hide (show (w.alloc (.cells #[.int .i64 s.op, .int .i64 s.now, .int .i64 s.n, .bool s.is, .int .i64 s.la.sp, .int .u8 s.la.m0, .int .u8 s.la.m1, .int .u8 s.la.m2, .int .u8 s.la.m3, .int .u8 s.la.m4, .int .u8 s.la.m5, .int .i64 s.la.key, .int .i64 s.la.pp, .int .i64 s.la.port, .int .i64 s.la.st, .int .i64 s.lp.sp, .int .u8 s.lp.m0, .int .u8 s.lp.m1, .int .u8 s.lp.m2, .int .u8 s.lp.m3, .int .u8 s.lp.m4, .int .u8 s.lp.m5, .int .i64 s.lp.key, .int .i64 s.lp.pp, .int .i64 s.lp.port, .int .i64 s.lp.st, .int .i64 s.d] 50)).heap[n]? = some (.cells #[.int .i64 s.op, .int .i64 s.now, .int .i64 s.n, .bool s.is, .int .i64 s.la.sp, .int .u8 s.la.m0, .int .u8 s.la.m1, .int .u8 s.la.m2, .int .u8 s.la.m3, .int .u8 s.la.m4, .int .u8 s.la.m5, .int .i64 s.la.key, .int .i64 s.la.pp, .int .i64 s.la.port, .int .i64 s.la.st, .int .i64 s.lp.sp, .int .u8 s.lp.m0, .int .u8 s.lp.m1, .int .u8 s.lp.m2, .int .u8 s.lp.m3, .int .u8 s.lp.m4, .int .u8 s.lp.m5, .int .i64 s.lp.key, .int .i64 s.lp.pp, .int .i64 s.lp.port, .int .i64 s.lp.st, .int .i64 s.d] 50 (0, 0)) by rw [hn]; exact heap_alloc_new w _)
  have HT0 := hide (Two.of_below g h ((Below.refl w.heap.size w).alloc (Nat.le_refl _) (.cells #[.int .i64 s.op, .int .i64 s.now, .int .i64 s.n, .bool s.is, .int .i64 s.la.sp, .int .u8 s.la.m0, .int .u8 s.la.m1, .int .u8 s.la.m2, .int .u8 s.la.m3, .int .u8 s.la.m4, .int .u8 s.la.m5, .int .i64 s.la.key, .int .i64 s.la.pp, .int .i64 s.la.port, .int .i64 s.la.st, .int .i64 s.lp.sp, .int .u8 s.lp.m0, .int .u8 s.lp.m1, .int .u8 s.lp.m2, .int .u8 s.lp.m3, .int .u8 s.lp.m4, .int .u8 s.lp.m5, .int .i64 s.lp.key, .int .i64 s.lp.pp, .int .i64 s.lp.port, .int .i64 s.lp.st, .int .i64 s.d] 50)))
  have hgn : g < n := by omega
  have hhn : h < n := by omega
  clear hg hh
  obtain ⟨w0, hw0⟩ : ∃ w0, w0 = w.alloc (.cells #[.int .i64 s.op, .int .i64 s.now, .int .i64 s.n, .bool s.is, .int .i64 s.la.sp, .int .u8 s.la.m0, .int .u8 s.la.m1, .int .u8 s.la.m2, .int .u8 s.la.m3, .int .u8 s.la.m4, .int .u8 s.la.m5, .int .i64 s.la.key, .int .i64 s.la.pp, .int .i64 s.la.port, .int .i64 s.la.st, .int .i64 s.lp.sp, .int .u8 s.lp.m0, .int .u8 s.lp.m1, .int .u8 s.lp.m2, .int .u8 s.lp.m3, .int .u8 s.lp.m4, .int .u8 s.lp.m5, .int .i64 s.lp.key, .int .i64 s.lp.pp, .int .i64 s.lp.port, .int .i64 s.lp.st, .int .i64 s.d] 50) := ⟨_, rfl⟩
  have HW0 := hide hw0
  rw [← hw0] at HG0 HH0 HN0 HT0
  have hs0 : n < w0.heap.size := by rw [hw0, hn]; simp
  clear hw0
  obtain ⟨sdo, now, nn, is, la, lp, d⟩ := s
  simp only at HG0 HH0 HN0 HT0 HW0
  rcases (show sdo = 0 ∨ sdo = 1 ∨ sdo = 2 ∨ (sdo ≠ 0 ∧ sdo ≠ 1 ∧ sdo ≠ 2) by omega) with rfl | rfl | rfl | ⟨h0, h1, h2⟩
  · have hX : ES.step x ⟨0, now, nn, is, la, lp, d⟩ = x.take la lp d now := by simp [ES.step]
    have HX := hide hX
    clear hX
    go_enter Try.func28, Try.ntmps28
    have HNr := hide (show (w.alloc (.cells #[.int .i64 0, .int .i64 now, .int .i64 nn, .bool is, .int .i64 la.sp, .int .u8 la.m0, .int .u8 la.m1, .int .u8 la.m2, .int .u8 la.m3, .int .u8 la.m4, .int .u8 la.m5, .int .i64 la.key, .int .i64 la.pp, .int .i64 la.port, .int .i64 la.st, .int .i64 lp.sp, .int .u8 lp.m0, .int .u8 lp.m1, .int .u8 lp.m2, .int .u8 lp.m3, .int .u8 lp.m4, .int .u8 lp.m5, .int .i64 lp.key, .int .i64 lp.pp, .int .i64 lp.port, .int .i64 lp.st, .int .i64 d] 50)).heap[w.heap.size]? = some (.cells #[.int .i64 0, .int .i64 now, .int .i64 nn, .bool is, .int .i64 la.sp, .int .u8 la.m0, .int .u8 la.m1, .int .u8 la.m2, .int .u8 la.m3, .int .u8 la.m4, .int .u8 la.m5, .int .i64 la.key, .int .i64 la.pp, .int .i64 la.port, .int .i64 la.st, .int .i64 lp.sp, .int .u8 lp.m0, .int .u8 lp.m1, .int .u8 lp.m2, .int .u8 lp.m3, .int .u8 lp.m4, .int .u8 lp.m5, .int .i64 lp.key, .int .i64 lp.pp, .int .i64 lp.port, .int .i64 lp.st, .int .i64 d] 50 (0, 0)) from heap_alloc_new w _)
    go_wp2_with (refine wpList_load_part rfl 27 (.tmp 20) rfl w.heap.size 4 rfl 50 _ #[.int .i64 la.sp, .int .u8 la.m0, .int .u8 la.m1, .int .u8 la.m2, .int .u8 la.m3, .int .u8 la.m4, .int .u8 la.m5, .int .i64 la.key, .int .i64 la.pp, .int .i64 la.port, .int .i64 la.st, .int .i64 lp.sp, .int .u8 lp.m0, .int .u8 lp.m1, .int .u8 lp.m2, .int .u8 lp.m3, .int .u8 lp.m4, .int .u8 lp.m5, .int .i64 lp.key, .int .i64 lp.pp, .int .i64 lp.port, .int .i64 lp.st, .int .i64 d] (0, 0) _ HNr.out Try.underlying27 rfl (by kernel_rfl) rfl ?_)
    rw [← HW0.out, ← hn]
    have hn1 : n ≤ w.heap.size := by omega
    have hn2 : w.heap.size ≤ n := by omega
    clear hn
    refine (take_any g x la lp d now w0 HG0.out).mono ?_
    rintro e w1 ⟨rfl, hg1, hf1⟩
    have HG1 := hide hg1
    have HH1 := hide (HH0.out.frm hf1 (Ne.symm hne))
    have HN1 := hide (hf1.keep HN0.out (by omega))
    have HT1 := hide (HT0.out.trans (Two.l hf1))
    have m1 : w1.cell? ⟨n, 1, none⟩ = some (.int .i64 now) := cell_of_row w1 n 1 _ 50 (0, 0) HN1.out
    have m2 : w1.cell? ⟨n, 2, none⟩ = some (.int .i64 nn) := cell_of_row w1 n 2 _ 50 (0, 0) HN1.out
    have m3 : w1.cell? ⟨n, 3, none⟩ = some (.bool is) := cell_of_row w1 n 3 _ 50 (0, 0) HN1.out
    have hnt : n ≠ g ∧ n ≠ h := ⟨by omega, by omega⟩
    clear hg1 hf1 HNr
    go_wp2_with (refine wpList_load_part rfl 27 (.tmp 29) rfl n 4 rfl 50 _ #[.int .i64 la.sp, .int .u8 la.m0, .int .u8 la.m1, .int .u8 la.m2, .int .u8 la.m3, .int .u8 la.m4, .int .u8 la.m5, .int .i64 la.key, .int .i64 la.pp, .int .i64 la.port, .int .i64 la.st, .int .i64 lp.sp, .int .u8 lp.m0, .int .u8 lp.m1, .int .u8 lp.m2, .int .u8 lp.m3, .int .u8 lp.m4, .int .u8 lp.m5, .int .i64 lp.key, .int .i64 lp.pp, .int .i64 lp.port, .int .i64 lp.st, .int .i64 d] (0, 0) _ HN1.out Try.underlying27 rfl (by kernel_rfl) rfl ?_)
    refine (refTake_any h x la lp d now w1 HH1.out).mono ?_
    rintro e w2 ⟨rfl, hh2, hf2⟩
    have HG2 := hide (HG1.out.frm hf2 hne); have HH2 := hide hh2; have HT2 := hide (HT1.out.trans (Two.r hf2))
    clear hh2 hf2
    go_wp2_with fail
    go_ret
    exact ⟨by simp, by rw [HX.out]; exact HG2.out, by rw [HX.out]; exact HH2.out, HT2.out⟩
  · have hX : ES.step x ⟨1, now, nn, is, la, lp, d⟩ = x.tick now := by simp [ES.step]
    have HX := hide hX
    clear hX
    go_enter Try.func28, Try.ntmps28
    have HNr := hide (show (w.alloc (.cells #[.int .i64 1, .int .i64 now, .int .i64 nn, .bool is, .int .i64 la.sp, .int .u8 la.m0, .int .u8 la.m1, .int .u8 la.m2, .int .u8 la.m3, .int .u8 la.m4, .int .u8 la.m5, .int .i64 la.key, .int .i64 la.pp, .int .i64 la.port, .int .i64 la.st, .int .i64 lp.sp, .int .u8 lp.m0, .int .u8 lp.m1, .int .u8 lp.m2, .int .u8 lp.m3, .int .u8 lp.m4, .int .u8 lp.m5, .int .i64 lp.key, .int .i64 lp.pp, .int .i64 lp.port, .int .i64 lp.st, .int .i64 d] 50)).heap[w.heap.size]? = some (.cells #[.int .i64 1, .int .i64 now, .int .i64 nn, .bool is, .int .i64 la.sp, .int .u8 la.m0, .int .u8 la.m1, .int .u8 la.m2, .int .u8 la.m3, .int .u8 la.m4, .int .u8 la.m5, .int .i64 la.key, .int .i64 la.pp, .int .i64 la.port, .int .i64 la.st, .int .i64 lp.sp, .int .u8 lp.m0, .int .u8 lp.m1, .int .u8 lp.m2, .int .u8 lp.m3, .int .u8 lp.m4, .int .u8 lp.m5, .int .i64 lp.key, .int .i64 lp.pp, .int .i64 lp.port, .int .i64 lp.st, .int .i64 d] 50 (0, 0)) from heap_alloc_new w _)
    go_wp2_with fail
    rw [← HW0.out, ← hn]
    have hn1 : n ≤ w.heap.size := by omega
    have hn2 : w.heap.size ≤ n := by omega
    clear hn
    refine (tick_any g x now w0 hf HG0.out).mono ?_
    rintro e w1 ⟨rfl, hg1, hf1⟩
    have HG1 := hide hg1
    have HH1 := hide (HH0.out.frm hf1 (Ne.symm hne))
    have HN1 := hide (hf1.keep HN0.out (by omega))
    have HT1 := hide (HT0.out.trans (Two.l hf1))
    have m1 : w1.cell? ⟨n, 1, none⟩ = some (.int .i64 now) := cell_of_row w1 n 1 _ 50 (0, 0) HN1.out
    have m2 : w1.cell? ⟨n, 2, none⟩ = some (.int .i64 nn) := cell_of_row w1 n 2 _ 50 (0, 0) HN1.out
    have m3 : w1.cell? ⟨n, 3, none⟩ = some (.bool is) := cell_of_row w1 n 3 _ 50 (0, 0) HN1.out
    have hnt : n ≠ g ∧ n ≠ h := ⟨by omega, by omega⟩
    clear hg1 hf1 HNr
    go_wp2_with fail
    refine (refTick_any h x now w1 hf HH1.out).mono ?_
    rintro e w2 ⟨rfl, hh2, hf2⟩
    have HG2 := hide (HG1.out.frm hf2 hne); have HH2 := hide hh2; have HT2 := hide (HT1.out.trans (Two.r hf2))
    clear hh2 hf2
    go_wp2_with fail
    go_ret
    exact ⟨by simp, by rw [HX.out]; exact HG2.out, by rw [HX.out]; exact HH2.out, HT2.out⟩
  · have hX : ES.step x ⟨2, now, nn, is, la, lp, d⟩ = x.enable is now := by simp [ES.step]
    have HX := hide hX
    clear hX
    go_enter Try.func28, Try.ntmps28
    have HNr := hide (show (w.alloc (.cells #[.int .i64 2, .int .i64 now, .int .i64 nn, .bool is, .int .i64 la.sp, .int .u8 la.m0, .int .u8 la.m1, .int .u8 la.m2, .int .u8 la.m3, .int .u8 la.m4, .int .u8 la.m5, .int .i64 la.key, .int .i64 la.pp, .int .i64 la.port, .int .i64 la.st, .int .i64 lp.sp, .int .u8 lp.m0, .int .u8 lp.m1, .int .u8 lp.m2, .int .u8 lp.m3, .int .u8 lp.m4, .int .u8 lp.m5, .int .i64 lp.key, .int .i64 lp.pp, .int .i64 lp.port, .int .i64 lp.st, .int .i64 d] 50)).heap[w.heap.size]? = some (.cells #[.int .i64 2, .int .i64 now, .int .i64 nn, .bool is, .int .i64 la.sp, .int .u8 la.m0, .int .u8 la.m1, .int .u8 la.m2, .int .u8 la.m3, .int .u8 la.m4, .int .u8 la.m5, .int .i64 la.key, .int .i64 la.pp, .int .i64 la.port, .int .i64 la.st, .int .i64 lp.sp, .int .u8 lp.m0, .int .u8 lp.m1, .int .u8 lp.m2, .int .u8 lp.m3, .int .u8 lp.m4, .int .u8 lp.m5, .int .i64 lp.key, .int .i64 lp.pp, .int .i64 lp.port, .int .i64 lp.st, .int .i64 d] 50 (0, 0)) from heap_alloc_new w _)
    go_wp2_with fail
    rw [← HW0.out, ← hn]
    have hn1 : n ≤ w.heap.size := by omega
    have hn2 : w.heap.size ≤ n := by omega
    clear hn
    refine (enable_any g x is now w0 HG0.out).mono ?_
    rintro e w1 ⟨rfl, hg1, hf1⟩
    have HG1 := hide hg1
    have HH1 := hide (HH0.out.frm hf1 (Ne.symm hne))
    have HN1 := hide (hf1.keep HN0.out (by omega))
    have HT1 := hide (HT0.out.trans (Two.l hf1))
    have m1 : w1.cell? ⟨n, 1, none⟩ = some (.int .i64 now) := cell_of_row w1 n 1 _ 50 (0, 0) HN1.out
    have m2 : w1.cell? ⟨n, 2, none⟩ = some (.int .i64 nn) := cell_of_row w1 n 2 _ 50 (0, 0) HN1.out
    have m3 : w1.cell? ⟨n, 3, none⟩ = some (.bool is) := cell_of_row w1 n 3 _ 50 (0, 0) HN1.out
    have hnt : n ≠ g ∧ n ≠ h := ⟨by omega, by omega⟩
    clear hg1 hf1 HNr
    go_wp2_with fail
    refine (refEnable_any h x is now w1 HH1.out).mono ?_
    rintro e w2 ⟨rfl, hh2, hf2⟩
    have HG2 := hide (HG1.out.frm hf2 hne); have HH2 := hide hh2; have HT2 := hide (HT1.out.trans (Two.r hf2))
    clear hh2 hf2
    go_wp2_with fail
    go_ret
    exact ⟨by simp, by rw [HX.out]; exact HG2.out, by rw [HX.out]; exact HH2.out, HT2.out⟩
  · have hX : ES.step x ⟨sdo, now, nn, is, la, lp, d⟩ = x.mux nn := by simp [ES.step, h0, h1, h2]
    have HX := hide hX
    have e0 : (sdo == 0) = false := by simpa using h0
    have e1 : (sdo == 1) = false := by simpa using h1
    have e2 : (sdo == 2) = false := by simpa using h2
    clear h0 h1 h2
    clear hX
    go_enter Try.func28, Try.ntmps28
    have HNr := hide (show (w.alloc (.cells #[.int .i64 sdo, .int .i64 now, .int .i64 nn, .bool is, .int .i64 la.sp, .int .u8 la.m0, .int .u8 la.m1, .int .u8 la.m2, .int .u8 la.m3, .int .u8 la.m4, .int .u8 la.m5, .int .i64 la.key, .int .i64 la.pp, .int .i64 la.port, .int .i64 la.st, .int .i64 lp.sp, .int .u8 lp.m0, .int .u8 lp.m1, .int .u8 lp.m2, .int .u8 lp.m3, .int .u8 lp.m4, .int .u8 lp.m5, .int .i64 lp.key, .int .i64 lp.pp, .int .i64 lp.port, .int .i64 lp.st, .int .i64 d] 50)).heap[w.heap.size]? = some (.cells #[.int .i64 sdo, .int .i64 now, .int .i64 nn, .bool is, .int .i64 la.sp, .int .u8 la.m0, .int .u8 la.m1, .int .u8 la.m2, .int .u8 la.m3, .int .u8 la.m4, .int .u8 la.m5, .int .i64 la.key, .int .i64 la.pp, .int .i64 la.port, .int .i64 la.st, .int .i64 lp.sp, .int .u8 lp.m0, .int .u8 lp.m1, .int .u8 lp.m2, .int .u8 lp.m3, .int .u8 lp.m4, .int .u8 lp.m5, .int .i64 lp.key, .int .i64 lp.pp, .int .i64 lp.port, .int .i64 lp.st, .int .i64 d] 50 (0, 0)) from heap_alloc_new w _)
    go_wp2_with fail
    rw [← HW0.out, ← hn]
    have hn1 : n ≤ w.heap.size := by omega
    have hn2 : w.heap.size ≤ n := by omega
    clear hn
    refine (mux_any g x nn w0 HG0.out).mono ?_
    rintro e w1 ⟨rfl, hg1, hf1⟩
    have HG1 := hide hg1
    have HH1 := hide (HH0.out.frm hf1 (Ne.symm hne))
    have HN1 := hide (hf1.keep HN0.out (by omega))
    have HT1 := hide (HT0.out.trans (Two.l hf1))
    have m1 : w1.cell? ⟨n, 1, none⟩ = some (.int .i64 now) := cell_of_row w1 n 1 _ 50 (0, 0) HN1.out
    have m2 : w1.cell? ⟨n, 2, none⟩ = some (.int .i64 nn) := cell_of_row w1 n 2 _ 50 (0, 0) HN1.out
    have m3 : w1.cell? ⟨n, 3, none⟩ = some (.bool is) := cell_of_row w1 n 3 _ 50 (0, 0) HN1.out
    have hnt : n ≠ g ∧ n ≠ h := ⟨by omega, by omega⟩
    clear hg1 hf1 HNr
    go_wp2_with fail
    refine (refMux_any h x nn w1 HH1.out).mono ?_
    rintro e w2 ⟨rfl, hh2, hf2⟩
    have HG2 := hide (HG1.out.frm hf2 hne); have HH2 := hide hh2; have HT2 := hide (HT1.out.trans (Two.r hf2))
    clear hh2 hf2
    go_wp2_with fail
    go_ret
    exact ⟨by simp, by rw [HX.out]; exact HG2.out, by rw [HX.out]; exact HH2.out, HT2.out⟩

theorem actor0_any (w : World) : Calls Try.prog 55 #[] w fun e w' => e = .returned (.agg #[.int .i64 1, .int .u8 2, .int .u8 0, .int .u8 0, .int .u8 0, .int .u8 0, .int .u8 0, .int .i64 5, .int .i64 0, .int .i64 7, .int .i64 7]) ∧ Below w.heap.size w w' := by
  have HZ := hide (heap_alloc_new w (.cells #[.int .i64 0, .int .u8 0, .int .u8 0, .int .u8 0, .int .u8 0, .int .u8 0, .int .u8 0, .int .i64 0, .int .i64 0, .int .i64 0, .int .i64 0] 25))
  have HF0 := hide ((Below.refl w.heap.size w).alloc (Nat.le_refl _) (.cells #[.int .i64 0, .int .u8 0, .int .u8 0, .int .u8 0, .int .u8 0, .int .u8 0, .int .u8 0, .int .i64 0, .int .i64 0, .int .i64 0, .int .i64 0] 25))
  go_enter Try.func55, Try.ntmps55
  go_wp2_with (refine wpList_store_part rfl rfl w.heap.size 0 #[.int .i64 1, .int .u8 2, .int .u8 0, .int .u8 0, .int .u8 0, .int .u8 0, .int .u8 0, .int .i64 5, .int .i64 0, .int .i64 7, .int .i64 7] rfl rfl 25 HZ.out (by kernel_rfl) (by simp) (inf_one ⟨1, 2, 0, 0, 0, 0, 0, 5, 0, 7, 7⟩) #[.int .i64 1, .int .u8 2, .int .u8 0, .int .u8 0, .int .u8 0, .int .u8 0, .int .u8 0, .int .i64 5, .int .i64 0, .int .i64 7, .int .i64 7] rfl ?_; intro w2 hf2 hb2; have HB2 := hide hb2; have HF2 := hide hf2; clear hf2 hb2)
  (try simp only [Exit.inBlock, Exit.then])
  refine bodyPost_ret (results_inf rfl _ _ w.heap.size ⟨1, 2, 0, 0, 0, 0, 0, 5, 0, 7, 7⟩ rfl HB2.out) rfl ⟨rfl, ?_⟩
  exact HF0.out.trans ((HF2.out.below (base := w.heap.size) (Nat.le_refl _) (by simp)).mono (Nat.le_refl _))
end Go.Proofs.Ytooieocfgifpgaa

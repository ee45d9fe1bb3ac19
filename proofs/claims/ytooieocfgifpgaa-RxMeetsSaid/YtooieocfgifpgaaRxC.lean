/-
  One end of a link: Actor, Partner, bare, New.
-/
import Derived.Test.YtooieocfgifpgaaRxB
namespace Go.Proofs.Ytooieocfgifpgaa
open Go.RowKit Go.WideShapes Go.ChangeShapes
set_option linter.unusedVariables false

theorem results_inf {fn : Func} {p : Tmp} (h : fn.results = #[.cell p 25]) (tmps : Array Value) (w : World) (g : Nat) (x : Inf) (hp : tmps.getD p undef = .pointer (some ⟨g, 0, none⟩)) (hg : w.heap[g]? = some (.cells #[.int .i64 x.sp, .int .u8 x.m0, .int .u8 x.m1, .int .u8 x.m2, .int .u8 x.m3, .int .u8 x.m4, .int .u8 x.m5, .int .i64 x.key, .int .i64 x.pp, .int .i64 x.port, .int .i64 x.st] 25 (0, 0))) : (results fn tmps).run Try.prog w = .ok (.agg #[.int .i64 x.sp, .int .u8 x.m0, .int .u8 x.m1, .int .u8 x.m2, .int .u8 x.m3, .int .u8 x.m4, .int .u8 x.m5, .int .i64 x.key, .int .i64 x.pp, .int .i64 x.port, .int .i64 x.st]) w :=
  results_cell_row h tmps w g 25 _ (0, 0) _ hp hg Try.underlying25 rfl (by kernel_rfl)

set_option maxRecDepth 100000 in
set_option maxHeartbeats 4000000 in
theorem actor_any (g : Nat) (x : ES) (w : World) (h : EndAt w g 81 x) : Calls Try.prog 30 #[.pointer (some ⟨g, 0, none⟩)] w fun e w' => e = .returned (.agg #[.int .i64 x.actor.sp, .int .u8 x.actor.m0, .int .u8 x.actor.m1, .int .u8 x.actor.m2, .int .u8 x.actor.m3, .int .u8 x.actor.m4, .int .u8 x.actor.m5, .int .i64 x.actor.key, .int .i64 x.actor.pp, .int .i64 x.actor.port, .int .i64 x.actor.st]) ∧ Below w.heap.size w w' := by
  have hg := h.lt
  have ha : x.actSt = if (x.s == 2) then bits .or .i64 (bits .or .i64 x.a.st x.m) 64 else if (x.s == 1) then bits .or .i64 (bits .or .i64 x.a.st x.m) 128 else bits .or .i64 x.a.st x.m := rfl
  obtain ⟨S2, h2⟩ : ∃ D, (x.s == 2) = D := ⟨_, rfl⟩
  obtain ⟨S1, h1⟩ : ∃ D, (x.s == 1) = D := ⟨_, rfl⟩
  rw [h2, h1] at ha
  have HA := hide ha
  have H := hide h
  obtain ⟨n, hn⟩ : ∃ n, n = w.heap.size := ⟨_, rfl⟩
  have hgn : g < n := by omega
  have H0 := hide (show EndAt (w.alloc (.cells #[.int .i64 0, .int .u8 0, .int .u8 0, .int .u8 0, .int .u8 0, .int .u8 0, .int .u8 0, .int .i64 0, .int .i64 0, .int .i64 0, .int .i64 0] 25)) g 81 x from (Below.heap_alloc w _ g hg).trans h)
  have H1 := hide (show EndAt ((w.alloc (.cells #[.int .i64 0, .int .u8 0, .int .u8 0, .int .u8 0, .int .u8 0, .int .u8 0, .int .u8 0, .int .i64 0, .int .i64 0, .int .i64 0, .int .i64 0] 25)).alloc (.cells #[.int .i64 0, .int .u8 0, .int .u8 0, .int .u8 0, .int .u8 0, .int .u8 0, .int .u8 0, .int .i64 0, .int .i64 0, .int .i64 0, .int .i64 0] 25)) g 81 x from (Below.heap_alloc _ _ g (by simp; omega)).trans H0.out)
  have HZ := hide (show ((w.alloc (.cells #[.int .i64 0, .int .u8 0, .int .u8 0, .int .u8 0, .int .u8 0, .int .u8 0, .int .u8 0, .int .i64 0, .int .i64 0, .int .i64 0, .int .i64 0] 25)).alloc (.cells #[.int .i64 0, .int .u8 0, .int .u8 0, .int .u8 0, .int .u8 0, .int .u8 0, .int .u8 0, .int .i64 0, .int .i64 0, .int .i64 0, .int .i64 0] 25)).heap[w.heap.size + 1]? = some (.cells #[.int .i64 0, .int .u8 0, .int .u8 0, .int .u8 0, .int .u8 0, .int .u8 0, .int .u8 0, .int .i64 0, .int .i64 0, .int .i64 0, .int .i64 0] 25 (0, 0)) from by simpa using heap_alloc_new (w.alloc (.cells #[.int .i64 0, .int .u8 0, .int .u8 0, .int .u8 0, .int .u8 0, .int .u8 0, .int .u8 0, .int .i64 0, .int .i64 0, .int .i64 0, .int .i64 0] 25)) (.cells #[.int .i64 0, .int .u8 0, .int .u8 0, .int .u8 0, .int .u8 0, .int .u8 0, .int .u8 0, .int .i64 0, .int .i64 0, .int .i64 0, .int .i64 0] 25))
  have HZ0 := hide (show ((w.alloc (.cells #[.int .i64 0, .int .u8 0, .int .u8 0, .int .u8 0, .int .u8 0, .int .u8 0, .int .u8 0, .int .i64 0, .int .i64 0, .int .i64 0, .int .i64 0] 25)).alloc (.cells #[.int .i64 0, .int .u8 0, .int .u8 0, .int .u8 0, .int .u8 0, .int .u8 0, .int .u8 0, .int .i64 0, .int .i64 0, .int .i64 0, .int .i64 0] 25)).heap[w.heap.size]? = some (.cells #[.int .i64 0, .int .u8 0, .int .u8 0, .int .u8 0, .int .u8 0, .int .u8 0, .int .u8 0, .int .i64 0, .int .i64 0, .int .i64 0, .int .i64 0] 25 (0, 0)) from (Below.heap_alloc _ _ _ (by simp)).trans (heap_alloc_new _ _))
  have HF0 := hide (((Frm.refl w (w.heap.size + 1)).alloc (.cells #[.int .i64 0, .int .u8 0, .int .u8 0, .int .u8 0, .int .u8 0, .int .u8 0, .int .u8 0, .int .i64 0, .int .i64 0, .int .i64 0, .int .i64 0] 25)).alloc (.cells #[.int .i64 0, .int .u8 0, .int .u8 0, .int .u8 0, .int .u8 0, .int .u8 0, .int .u8 0, .int .i64 0, .int .i64 0, .int .i64 0, .int .i64 0] 25))
  clear h ha
  go_enter Try.func30, Try.ntmps30
  go_wp2_with (first | (refine wpList_load_part rfl 25 (.tmp 6) rfl g 0 rfl 81 _ #[.int .i64 x.a.sp, .int .u8 x.a.m0, .int .u8 x.a.m1, .int .u8 x.a.m2, .int .u8 x.a.m3, .int .u8 x.a.m4, .int .u8 x.a.m5, .int .i64 x.a.key, .int .i64 x.a.pp, .int .i64 x.a.port, .int .i64 x.a.st] (0, 0) _ H0.out Try.underlying25 rfl (by kernel_rfl) rfl ?_) | (refine wpList_store_part rfl rfl (w.heap.size + 1) 0 #[.int .i64 x.a.sp, .int .u8 x.a.m0, .int .u8 x.a.m1, .int .u8 x.a.m2, .int .u8 x.a.m3, .int .u8 x.a.m4, .int .u8 x.a.m5, .int .i64 x.a.key, .int .i64 x.a.pp, .int .i64 x.a.port, .int .i64 x.a.st] rfl rfl 25 HZ.out (by kernel_rfl) (by simp) (inf_one x.a) #[.int .i64 x.a.sp, .int .u8 x.a.m0, .int .u8 x.a.m1, .int .u8 x.a.m2, .int .u8 x.a.m3, .int .u8 x.a.m4, .int .u8 x.a.m5, .int .i64 x.a.key, .int .i64 x.a.pp, .int .i64 x.a.port, .int .i64 x.a.st] rfl ?_; intro w2 hf2 hb2; have HB2 := hide hb2; have HF2a := hide hf2; clear hf2 hb2))
  · have HF2 := hide (HF0.out.trans HF2a.out (.inl rfl))
    have H2 := hide (H1.out.frm HF2a.out (by omega))
    have HZ2 := hide (HF2a.out.keep HZ0.out (by omega))
    have hs2 : w.heap.size + 2 ≤ w2.heap.size := by have := HF2a.out.size; simp at this; omega
    clear HF2a
    rw [← hn] at HB2 HF2 HZ2 hs2 ⊢
    have HNn := hide hn
    clear hn
    obtain ⟨-, -, c22, c23, -, -⟩ := H2.out.facts
    have b10 : w2.cell? ⟨n + 1, 10, none⟩ = some (.int .i64 x.a.st) := cell_of_row w2 (n + 1) 10 _ 25 (0, 0) HB2.out
    have z10 : w2.frozen? ⟨n + 1, 10, none⟩ = false := frozen_of_row w2 (n + 1) 10 _ 25 HB2.out
    have hne : ¬ g = n + 1 := by omega
    go_wp2_with fail
    try simp only [Act.put]
    refine wp_region_tail 8 (by kernel_rfl) (by kernel_rfl) (fun y hy => ?_)
    have d22 : y.cell? ⟨g, 22, none⟩ = some (.int .i64 x.s) := by rw [hy]; exact c22
    have d23 : y.cell? ⟨g, 23, none⟩ = some (.int .i64 x.m) := by rw [hy]; exact c23
    have e10 : y.cell? ⟨n + 1, 10, none⟩ = some (.int .i64 x.a.st) := by rw [hy]; exact b10
    have f10 : y.frozen? ⟨n + 1, 10, none⟩ = false := by rw [hy]; exact z10
    have HY := hide hy
    clear hy c22 c23 b10 z10
    simp only [List.take_succ_cons, List.take_zero, List.drop_succ_cons, List.drop_zero]
    repeat (first | go_big_quiet_skip | (go_big_quiet_want; go_big_quiet_op; go_big_quiet_on))
    refine wpQuiet_nil ?_
    have HB3 := hide (show y.heap[n + 1]? = some (.cells #[.int .i64 x.a.sp, .int .u8 x.a.m0, .int .u8 x.a.m1, .int .u8 x.a.m2, .int .u8 x.a.m3, .int .u8 x.a.m4, .int .u8 x.a.m5, .int .i64 x.a.key, .int .i64 x.a.pp, .int .i64 x.a.port, .int .i64 x.a.st] 25 (0, 0)) by rw [HY.out]; exact HB2.out)
    have HZ3 := hide (show y.heap[n]? = some (.cells #[.int .i64 0, .int .u8 0, .int .u8 0, .int .u8 0, .int .u8 0, .int .u8 0, .int .u8 0, .int .i64 0, .int .i64 0, .int .i64 0, .int .i64 0] 25 (0, 0)) by rw [HY.out]; exact HZ2.out)
    have HF3 := hide (show Frm w y (n + 1) by rw [HY.out]; exact HF2.out.drew)
    have HBo := hide (heap_setCell_same y (n + 1) 10 _ 25 (.int .i64 (bits .or .i64 x.a.st x.m)) HB3.out)
    have HFo := hide (HF3.out.setCell 10 (.int .i64 (bits .or .i64 x.a.st x.m)))
    have HZo := hide (show (y.setCell ⟨n + 1, 10, none⟩ (.int .i64 (bits .or .i64 x.a.st x.m))).heap[n]? = some (.cells #[.int .i64 0, .int .u8 0, .int .u8 0, .int .u8 0, .int .u8 0, .int .u8 0, .int .u8 0, .int .i64 0, .int .i64 0, .int .i64 0, .int .i64 0] 25 (0, 0)) from (Below.heap_setCell _ _ _ _ (by show n ≠ n + 1; omega)).trans HZ3.out)
    have hlt3 : n + 2 ≤ y.heap.size := by rw [HY.out]; exact hs2
    clear HB3 HZ3 HF3 HB2 HF2 HZ2 H2 HF0 HZ HZ0 H0 H1
    cases S2
    · cases S1
      · skip
        have HL := hide (show (y.setCell ⟨n + 1, 10, none⟩ (.int .i64 (bits .or .i64 x.a.st x.m))).heap[n + 1]? = some (.cells #[.int .i64 x.actor.sp, .int .u8 x.actor.m0, .int .u8 x.actor.m1, .int .u8 x.actor.m2, .int .u8 x.actor.m3, .int .u8 x.actor.m4, .int .u8 x.actor.m5, .int .i64 x.actor.key, .int .i64 x.actor.pp, .int .i64 x.actor.port, .int .i64 x.actor.st] 25 (0, 0)) from HBo.out.trans (by rw [show x.actor.st = _ from HA.out]; rfl))
        have HZL := HZo
        have HFL := HFo
        clear HBo HZo HFo
        go_wp2_with (first | (refine wpList_load_part rfl 25 (.tmp 3) rfl (n + 1) 0 rfl 25 _ #[.int .i64 x.actor.sp, .int .u8 x.actor.m0, .int .u8 x.actor.m1, .int .u8 x.actor.m2, .int .u8 x.actor.m3, .int .u8 x.actor.m4, .int .u8 x.actor.m5, .int .i64 x.actor.key, .int .i64 x.actor.pp, .int .i64 x.actor.port, .int .i64 x.actor.st] (0, 0) _ HL.out Try.underlying25 rfl (by kernel_rfl) rfl ?_) | (refine wpList_store_part rfl rfl n 0 #[.int .i64 x.actor.sp, .int .u8 x.actor.m0, .int .u8 x.actor.m1, .int .u8 x.actor.m2, .int .u8 x.actor.m3, .int .u8 x.actor.m4, .int .u8 x.actor.m5, .int .i64 x.actor.key, .int .i64 x.actor.pp, .int .i64 x.actor.port, .int .i64 x.actor.st] rfl rfl 25 HZL.out (by kernel_rfl) (by simp) (inf_one x.actor) #[.int .i64 x.actor.sp, .int .u8 x.actor.m0, .int .u8 x.actor.m1, .int .u8 x.actor.m2, .int .u8 x.actor.m3, .int .u8 x.actor.m4, .int .u8 x.actor.m5, .int .i64 x.actor.key, .int .i64 x.actor.pp, .int .i64 x.actor.port, .int .i64 x.actor.st] rfl ?_; intro w5 hf5 hb5; have HB5 := hide hb5; have HF5 := hide hf5; clear hf5 hb5))
        · (try simp only [Exit.inBlock, Exit.then])
          refine bodyPost_ret (results_inf rfl _ _ n x.actor rfl HB5.out) rfl ⟨rfl, ?_⟩
          have hF := HFL.out
          have hn := HNn.out
          exact ⟨HF5.out.os.trans hF.os, HF5.out.tape.trans hF.tape, HF5.out.output.trans hF.output, Nat.le_trans hF.size HF5.out.size, fun k hk => (HF5.out.block k (by have := hF.size; omega) (by intro e; injection e with e; omega)).trans (hF.block k hk (by intro e; injection e with e; omega))⟩
      · skip
        have e10' : (y.setCell ⟨n + 1, 10, none⟩ (.int .i64 (bits .or .i64 x.a.st x.m))).cell? ⟨n + 1, 10, none⟩ = some (.int .i64 (bits .or .i64 x.a.st x.m)) := cell_of_row _ (n + 1) 10 _ 25 (0, 0) HBo.out
        have HL := hide (show ((y.setCell ⟨n + 1, 10, none⟩ (.int .i64 (bits .or .i64 x.a.st x.m))).setCell ⟨n + 1, 10, none⟩ (.int .i64 (bits .or .i64 (bits .or .i64 x.a.st x.m) 128))).heap[n + 1]? = some (.cells #[.int .i64 x.actor.sp, .int .u8 x.actor.m0, .int .u8 x.actor.m1, .int .u8 x.actor.m2, .int .u8 x.actor.m3, .int .u8 x.actor.m4, .int .u8 x.actor.m5, .int .i64 x.actor.key, .int .i64 x.actor.pp, .int .i64 x.actor.port, .int .i64 x.actor.st] 25 (0, 0)) from (heap_setCell_same _ (n + 1) 10 _ 25 (.int .i64 (bits .or .i64 (bits .or .i64 x.a.st x.m) 128)) HBo.out).trans (by rw [show x.actor.st = _ from HA.out]; rfl))
        have HZL := hide (show ((y.setCell ⟨n + 1, 10, none⟩ (.int .i64 (bits .or .i64 x.a.st x.m))).setCell ⟨n + 1, 10, none⟩ (.int .i64 (bits .or .i64 (bits .or .i64 x.a.st x.m) 128))).heap[n]? = some (.cells #[.int .i64 0, .int .u8 0, .int .u8 0, .int .u8 0, .int .u8 0, .int .u8 0, .int .u8 0, .int .i64 0, .int .i64 0, .int .i64 0, .int .i64 0] 25 (0, 0)) from (Below.heap_setCell _ _ _ _ (by show n ≠ n + 1; omega)).trans HZo.out)
        have HFL := hide (HFo.out.setCell 10 (.int .i64 (bits .or .i64 (bits .or .i64 x.a.st x.m) 128)))
        clear HBo HZo HFo e10'
        go_wp2_with (first | (refine wpList_load_part rfl 25 (.tmp 3) rfl (n + 1) 0 rfl 25 _ #[.int .i64 x.actor.sp, .int .u8 x.actor.m0, .int .u8 x.actor.m1, .int .u8 x.actor.m2, .int .u8 x.actor.m3, .int .u8 x.actor.m4, .int .u8 x.actor.m5, .int .i64 x.actor.key, .int .i64 x.actor.pp, .int .i64 x.actor.port, .int .i64 x.actor.st] (0, 0) _ HL.out Try.underlying25 rfl (by kernel_rfl) rfl ?_) | (refine wpList_store_part rfl rfl n 0 #[.int .i64 x.actor.sp, .int .u8 x.actor.m0, .int .u8 x.actor.m1, .int .u8 x.actor.m2, .int .u8 x.actor.m3, .int .u8 x.actor.m4, .int .u8 x.actor.m5, .int .i64 x.actor.key, .int .i64 x.actor.pp, .int .i64 x.actor.port, .int .i64 x.actor.st] rfl rfl 25 HZL.out (by kernel_rfl) (by simp) (inf_one x.actor) #[.int .i64 x.actor.sp, .int .u8 x.actor.m0, .int .u8 x.actor.m1, .int .u8 x.actor.m2, .int .u8 x.actor.m3, .int .u8 x.actor.m4, .int .u8 x.actor.m5, .int .i64 x.actor.key, .int .i64 x.actor.pp, .int .i64 x.actor.port, .int .i64 x.actor.st] rfl ?_; intro w5 hf5 hb5; have HB5 := hide hb5; have HF5 := hide hf5; clear hf5 hb5))
        · (try simp only [Exit.inBlock, Exit.then])
          refine bodyPost_ret (results_inf rfl _ _ n x.actor rfl HB5.out) rfl ⟨rfl, ?_⟩
          have hF := HFL.out
          have hn := HNn.out
          exact ⟨HF5.out.os.trans hF.os, HF5.out.tape.trans hF.tape, HF5.out.output.trans hF.output, Nat.le_trans hF.size HF5.out.size, fun k hk => (HF5.out.block k (by have := hF.size; omega) (by intro e; injection e with e; omega)).trans (hF.block k hk (by intro e; injection e with e; omega))⟩
    · obtain rfl : S1 = false := by cases S1 <;> simp at h1 h2 ⊢ <;> omega
      have e10' : (y.setCell ⟨n + 1, 10, none⟩ (.int .i64 (bits .or .i64 x.a.st x.m))).cell? ⟨n + 1, 10, none⟩ = some (.int .i64 (bits .or .i64 x.a.st x.m)) := cell_of_row _ (n + 1) 10 _ 25 (0, 0) HBo.out
      have HL := hide (show ((y.setCell ⟨n + 1, 10, none⟩ (.int .i64 (bits .or .i64 x.a.st x.m))).setCell ⟨n + 1, 10, none⟩ (.int .i64 (bits .or .i64 (bits .or .i64 x.a.st x.m) 64))).heap[n + 1]? = some (.cells #[.int .i64 x.actor.sp, .int .u8 x.actor.m0, .int .u8 x.actor.m1, .int .u8 x.actor.m2, .int .u8 x.actor.m3, .int .u8 x.actor.m4, .int .u8 x.actor.m5, .int .i64 x.actor.key, .int .i64 x.actor.pp, .int .i64 x.actor.port, .int .i64 x.actor.st] 25 (0, 0)) from (heap_setCell_same _ (n + 1) 10 _ 25 (.int .i64 (bits .or .i64 (bits .or .i64 x.a.st x.m) 64)) HBo.out).trans (by rw [show x.actor.st = _ from HA.out]; rfl))
      have HZL := hide (show ((y.setCell ⟨n + 1, 10, none⟩ (.int .i64 (bits .or .i64 x.a.st x.m))).setCell ⟨n + 1, 10, none⟩ (.int .i64 (bits .or .i64 (bits .or .i64 x.a.st x.m) 64))).heap[n]? = some (.cells #[.int .i64 0, .int .u8 0, .int .u8 0, .int .u8 0, .int .u8 0, .int .u8 0, .int .u8 0, .int .i64 0, .int .i64 0, .int .i64 0, .int .i64 0] 25 (0, 0)) from (Below.heap_setCell _ _ _ _ (by show n ≠ n + 1; omega)).trans HZo.out)
      have HFL := hide (HFo.out.setCell 10 (.int .i64 (bits .or .i64 (bits .or .i64 x.a.st x.m) 64)))
      clear HBo HZo HFo e10'
      go_wp2_with (first | (refine wpList_load_part rfl 25 (.tmp 3) rfl (n + 1) 0 rfl 25 _ #[.int .i64 x.actor.sp, .int .u8 x.actor.m0, .int .u8 x.actor.m1, .int .u8 x.actor.m2, .int .u8 x.actor.m3, .int .u8 x.actor.m4, .int .u8 x.actor.m5, .int .i64 x.actor.key, .int .i64 x.actor.pp, .int .i64 x.actor.port, .int .i64 x.actor.st] (0, 0) _ HL.out Try.underlying25 rfl (by kernel_rfl) rfl ?_) | (refine wpList_store_part rfl rfl n 0 #[.int .i64 x.actor.sp, .int .u8 x.actor.m0, .int .u8 x.actor.m1, .int .u8 x.actor.m2, .int .u8 x.actor.m3, .int .u8 x.actor.m4, .int .u8 x.actor.m5, .int .i64 x.actor.key, .int .i64 x.actor.pp, .int .i64 x.actor.port, .int .i64 x.actor.st] rfl rfl 25 HZL.out (by kernel_rfl) (by simp) (inf_one x.actor) #[.int .i64 x.actor.sp, .int .u8 x.actor.m0, .int .u8 x.actor.m1, .int .u8 x.actor.m2, .int .u8 x.actor.m3, .int .u8 x.actor.m4, .int .u8 x.actor.m5, .int .i64 x.actor.key, .int .i64 x.actor.pp, .int .i64 x.actor.port, .int .i64 x.actor.st] rfl ?_; intro w5 hf5 hb5; have HB5 := hide hb5; have HF5 := hide hf5; clear hf5 hb5))
      · (try simp only [Exit.inBlock, Exit.then])
        refine bodyPost_ret (results_inf rfl _ _ n x.actor rfl HB5.out) rfl ⟨rfl, ?_⟩
        have hF := HFL.out
        have hn := HNn.out
        exact ⟨HF5.out.os.trans hF.os, HF5.out.tape.trans hF.tape, HF5.out.output.trans hF.output, Nat.le_trans hF.size HF5.out.size, fun k hk => (HF5.out.block k (by have := hF.size; omega) (by intro e; injection e with e; omega)).trans (hF.block k hk (by intro e; injection e with e; omega))⟩

set_option maxRecDepth 100000 in
set_option maxHeartbeats 4000000 in
theorem refActor_any (g : Nat) (x : ES) (w : World) (h : EndAt w g 53 x) : Calls Try.prog 31 #[.pointer (some ⟨g, 0, none⟩)] w fun e w' => e = .returned (.agg #[.int .i64 x.actor.sp, .int .u8 x.actor.m0, .int .u8 x.actor.m1, .int .u8 x.actor.m2, .int .u8 x.actor.m3, .int .u8 x.actor.m4, .int .u8 x.actor.m5, .int .i64 x.actor.key, .int .i64 x.actor.pp, .int .i64 x.actor.port, .int .i64 x.actor.st]) ∧ Below w.heap.size w w' := by
  have hg := h.lt
  have ha : x.actSt = if (x.s == 2) then bits .or .i64 (bits .or .i64 x.a.st x.m) 64 else if (x.s == 1) then bits .or .i64 (bits .or .i64 x.a.st x.m) 128 else bits .or .i64 x.a.st x.m := rfl
  obtain ⟨S2, h2⟩ : ∃ D, (x.s == 2) = D := ⟨_, rfl⟩
  obtain ⟨S1, h1⟩ : ∃ D, (x.s == 1) = D := ⟨_, rfl⟩
  rw [h2, h1] at ha
  have HA := hide ha
  have H := hide h
  obtain ⟨n, hn⟩ : ∃ n, n = w.heap.size := ⟨_, rfl⟩
  have hgn : g < n := by omega
  have H0 := hide (show EndAt (w.alloc (.cells #[.int .i64 0, .int .u8 0, .int .u8 0, .int .u8 0, .int .u8 0, .int .u8 0, .int .u8 0, .int .i64 0, .int .i64 0, .int .i64 0, .int .i64 0] 25)) g 53 x from (Below.heap_alloc w _ g hg).trans h)
  have H1 := hide (show EndAt ((w.alloc (.cells #[.int .i64 0, .int .u8 0, .int .u8 0, .int .u8 0, .int .u8 0, .int .u8 0, .int .u8 0, .int .i64 0, .int .i64 0, .int .i64 0, .int .i64 0] 25)).alloc (.cells #[.int .i64 0, .int .u8 0, .int .u8 0, .int .u8 0, .int .u8 0, .int .u8 0, .int .u8 0, .int .i64 0, .int .i64 0, .int .i64 0, .int .i64 0] 25)) g 53 x from (Below.heap_alloc _ _ g (by simp; omega)).trans H0.out)
  have HZ := hide (show ((w.alloc (.cells #[.int .i64 0, .int .u8 0, .int .u8 0, .int .u8 0, .int .u8 0, .int .u8 0, .int .u8 0, .int .i64 0, .int .i64 0, .int .i64 0, .int .i64 0] 25)).alloc (.cells #[.int .i64 0, .int .u8 0, .int .u8 0, .int .u8 0, .int .u8 0, .int .u8 0, .int .u8 0, .int .i64 0, .int .i64 0, .int .i64 0, .int .i64 0] 25)).heap[w.heap.size + 1]? = some (.cells #[.int .i64 0, .int .u8 0, .int .u8 0, .int .u8 0, .int .u8 0, .int .u8 0, .int .u8 0, .int .i64 0, .int .i64 0, .int .i64 0, .int .i64 0] 25 (0, 0)) from by simpa using heap_alloc_new (w.alloc (.cells #[.int .i64 0, .int .u8 0, .int .u8 0, .int .u8 0, .int .u8 0, .int .u8 0, .int .u8 0, .int .i64 0, .int .i64 0, .int .i64 0, .int .i64 0] 25)) (.cells #[.int .i64 0, .int .u8 0, .int .u8 0, .int .u8 0, .int .u8 0, .int .u8 0, .int .u8 0, .int .i64 0, .int .i64 0, .int .i64 0, .int .i64 0] 25))
  have HZ0 := hide (show ((w.alloc (.cells #[.int .i64 0, .int .u8 0, .int .u8 0, .int .u8 0, .int .u8 0, .int .u8 0, .int .u8 0, .int .i64 0, .int .i64 0, .int .i64 0, .int .i64 0] 25)).alloc (.cells #[.int .i64 0, .int .u8 0, .int .u8 0, .int .u8 0, .int .u8 0, .int .u8 0, .int .u8 0, .int .i64 0, .int .i64 0, .int .i64 0, .int .i64 0] 25)).heap[w.heap.size]? = some (.cells #[.int .i64 0, .int .u8 0, .int .u8 0, .int .u8 0, .int .u8 0, .int .u8 0, .int .u8 0, .int .i64 0, .int .i64 0, .int .i64 0, .int .i64 0] 25 (0, 0)) from (Below.heap_alloc _ _ _ (by simp)).trans (heap_alloc_new _ _))
  have HF0 := hide (((Frm.refl w (w.heap.size + 1)).alloc (.cells #[.int .i64 0, .int .u8 0, .int .u8 0, .int .u8 0, .int .u8 0, .int .u8 0, .int .u8 0, .int .i64 0, .int .i64 0, .int .i64 0, .int .i64 0] 25)).alloc (.cells #[.int .i64 0, .int .u8 0, .int .u8 0, .int .u8 0, .int .u8 0, .int .u8 0, .int .u8 0, .int .i64 0, .int .i64 0, .int .i64 0, .int .i64 0] 25))
  clear h ha
  go_enter Try.func31, Try.ntmps31
  go_wp2_with (first | (refine wpList_load_part rfl 25 (.tmp 6) rfl g 0 rfl 53 _ #[.int .i64 x.a.sp, .int .u8 x.a.m0, .int .u8 x.a.m1, .int .u8 x.a.m2, .int .u8 x.a.m3, .int .u8 x.a.m4, .int .u8 x.a.m5, .int .i64 x.a.key, .int .i64 x.a.pp, .int .i64 x.a.port, .int .i64 x.a.st] (0, 0) _ H0.out Try.underlying25 rfl (by kernel_rfl) rfl ?_) | (refine wpList_store_part rfl rfl (w.heap.size + 1) 0 #[.int .i64 x.a.sp, .int .u8 x.a.m0, .int .u8 x.a.m1, .int .u8 x.a.m2, .int .u8 x.a.m3, .int .u8 x.a.m4, .int .u8 x.a.m5, .int .i64 x.a.key, .int .i64 x.a.pp, .int .i64 x.a.port, .int .i64 x.a.st] rfl rfl 25 HZ.out (by kernel_rfl) (by simp) (inf_one x.a) #[.int .i64 x.a.sp, .int .u8 x.a.m0, .int .u8 x.a.m1, .int .u8 x.a.m2, .int .u8 x.a.m3, .int .u8 x.a.m4, .int .u8 x.a.m5, .int .i64 x.a.key, .int .i64 x.a.pp, .int .i64 x.a.port, .int .i64 x.a.st] rfl ?_; intro w2 hf2 hb2; have HB2 := hide hb2; have HF2a := hide hf2; clear hf2 hb2))
  · have HF2 := hide (HF0.out.trans HF2a.out (.inl rfl))
    have H2 := hide (H1.out.frm HF2a.out (by omega))
    have HZ2 := hide (HF2a.out.keep HZ0.out (by omega))
    have hs2 : w.heap.size + 2 ≤ w2.heap.size := by have := HF2a.out.size; simp at this; omega
    clear HF2a
    rw [← hn] at HB2 HF2 HZ2 hs2 ⊢
    have HNn := hide hn
    clear hn
    obtain ⟨-, -, c22, c23, -, -⟩ := H2.out.facts
    have b10 : w2.cell? ⟨n + 1, 10, none⟩ = some (.int .i64 x.a.st) := cell_of_row w2 (n + 1) 10 _ 25 (0, 0) HB2.out
    have z10 : w2.frozen? ⟨n + 1, 10, none⟩ = false := frozen_of_row w2 (n + 1) 10 _ 25 HB2.out
    have hne : ¬ g = n + 1 := by omega
    go_wp2_with fail
    try simp only [Act.put]
    refine wp_region_tail 8 (by kernel_rfl) (by kernel_rfl) (fun y hy => ?_)
    have d22 : y.cell? ⟨g, 22, none⟩ = some (.int .i64 x.s) := by rw [hy]; exact c22
    have d23 : y.cell? ⟨g, 23, none⟩ = some (.int .i64 x.m) := by rw [hy]; exact c23
    have e10 : y.cell? ⟨n + 1, 10, none⟩ = some (.int .i64 x.a.st) := by rw [hy]; exact b10
    have f10 : y.frozen? ⟨n + 1, 10, none⟩ = false := by rw [hy]; exact z10
    have HY := hide hy
    clear hy c22 c23 b10 z10
    simp only [List.take_succ_cons, List.take_zero, List.drop_succ_cons, List.drop_zero]
    repeat (first | go_big_quiet_skip | (go_big_quiet_want; go_big_quiet_op; go_big_quiet_on))
    refine wpQuiet_nil ?_
    have HB3 := hide (show y.heap[n + 1]? = some (.cells #[.int .i64 x.a.sp, .int .u8 x.a.m0, .int .u8 x.a.m1, .int .u8 x.a.m2, .int .u8 x.a.m3, .int .u8 x.a.m4, .int .u8 x.a.m5, .int .i64 x.a.key, .int .i64 x.a.pp, .int .i64 x.a.port, .int .i64 x.a.st] 25 (0, 0)) by rw [HY.out]; exact HB2.out)
    have HZ3 := hide (show y.heap[n]? = some (.cells #[.int .i64 0, .int .u8 0, .int .u8 0, .int .u8 0, .int .u8 0, .int .u8 0, .int .u8 0, .int .i64 0, .int .i64 0, .int .i64 0, .int .i64 0] 25 (0, 0)) by rw [HY.out]; exact HZ2.out)
    have HF3 := hide (show Frm w y (n + 1) by rw [HY.out]; exact HF2.out.drew)
    have HBo := hide (heap_setCell_same y (n + 1) 10 _ 25 (.int .i64 (bits .or .i64 x.a.st x.m)) HB3.out)
    have HFo := hide (HF3.out.setCell 10 (.int .i64 (bits .or .i64 x.a.st x.m)))
    have HZo := hide (show (y.setCell ⟨n + 1, 10, none⟩ (.int .i64 (bits .or .i64 x.a.st x.m))).heap[n]? = some (.cells #[.int .i64 0, .int .u8 0, .int .u8 0, .int .u8 0, .int .u8 0, .int .u8 0, .int .u8 0, .int .i64 0, .int .i64 0, .int .i64 0, .int .i64 0] 25 (0, 0)) from (Below.heap_setCell _ _ _ _ (by show n ≠ n + 1; omega)).trans HZ3.out)
    have hlt3 : n + 2 ≤ y.heap.size := by rw [HY.out]; exact hs2
    clear HB3 HZ3 HF3 HB2 HF2 HZ2 H2 HF0 HZ HZ0 H0 H1
    cases S2
    · cases S1
      · skip
        have HL := hide (show (y.setCell ⟨n + 1, 10, none⟩ (.int .i64 (bits .or .i64 x.a.st x.m))).heap[n + 1]? = some (.cells #[.int .i64 x.actor.sp, .int .u8 x.actor.m0, .int .u8 x.actor.m1, .int .u8 x.actor.m2, .int .u8 x.actor.m3, .int .u8 x.actor.m4, .int .u8 x.actor.m5, .int .i64 x.actor.key, .int .i64 x.actor.pp, .int .i64 x.actor.port, .int .i64 x.actor.st] 25 (0, 0)) from HBo.out.trans (by rw [show x.actor.st = _ from HA.out]; rfl))
        have HZL := HZo
        have HFL := HFo
        clear HBo HZo HFo
        go_wp2_with (first | (refine wpList_load_part rfl 25 (.tmp 3) rfl (n + 1) 0 rfl 25 _ #[.int .i64 x.actor.sp, .int .u8 x.actor.m0, .int .u8 x.actor.m1, .int .u8 x.actor.m2, .int .u8 x.actor.m3, .int .u8 x.actor.m4, .int .u8 x.actor.m5, .int .i64 x.actor.key, .int .i64 x.actor.pp, .int .i64 x.actor.port, .int .i64 x.actor.st] (0, 0) _ HL.out Try.underlying25 rfl (by kernel_rfl) rfl ?_) | (refine wpList_store_part rfl rfl n 0 #[.int .i64 x.actor.sp, .int .u8 x.actor.m0, .int .u8 x.actor.m1, .int .u8 x.actor.m2, .int .u8 x.actor.m3, .int .u8 x.actor.m4, .int .u8 x.actor.m5, .int .i64 x.actor.key, .int .i64 x.actor.pp, .int .i64 x.actor.port, .int .i64 x.actor.st] rfl rfl 25 HZL.out (by kernel_rfl) (by simp) (inf_one x.actor) #[.int .i64 x.actor.sp, .int .u8 x.actor.m0, .int .u8 x.actor.m1, .int .u8 x.actor.m2, .int .u8 x.actor.m3, .int .u8 x.actor.m4, .int .u8 x.actor.m5, .int .i64 x.actor.key, .int .i64 x.actor.pp, .int .i64 x.actor.port, .int .i64 x.actor.st] rfl ?_; intro w5 hf5 hb5; have HB5 := hide hb5; have HF5 := hide hf5; clear hf5 hb5))
        · (try simp only [Exit.inBlock, Exit.then])
          refine bodyPost_ret (results_inf rfl _ _ n x.actor rfl HB5.out) rfl ⟨rfl, ?_⟩
          have hF := HFL.out
          have hn := HNn.out
          exact ⟨HF5.out.os.trans hF.os, HF5.out.tape.trans hF.tape, HF5.out.output.trans hF.output, Nat.le_trans hF.size HF5.out.size, fun k hk => (HF5.out.block k (by have := hF.size; omega) (by intro e; injection e with e; omega)).trans (hF.block k hk (by intro e; injection e with e; omega))⟩
      · skip
        have e10' : (y.setCell ⟨n + 1, 10, none⟩ (.int .i64 (bits .or .i64 x.a.st x.m))).cell? ⟨n + 1, 10, none⟩ = some (.int .i64 (bits .or .i64 x.a.st x.m)) := cell_of_row _ (n + 1) 10 _ 25 (0, 0) HBo.out
        have HL := hide (show ((y.setCell ⟨n + 1, 10, none⟩ (.int .i64 (bits .or .i64 x.a.st x.m))).setCell ⟨n + 1, 10, none⟩ (.int .i64 (bits .or .i64 (bits .or .i64 x.a.st x.m) 128))).heap[n + 1]? = some (.cells #[.int .i64 x.actor.sp, .int .u8 x.actor.m0, .int .u8 x.actor.m1, .int .u8 x.actor.m2, .int .u8 x.actor.m3, .int .u8 x.actor.m4, .int .u8 x.actor.m5, .int .i64 x.actor.key, .int .i64 x.actor.pp, .int .i64 x.actor.port, .int .i64 x.actor.st] 25 (0, 0)) from (heap_setCell_same _ (n + 1) 10 _ 25 (.int .i64 (bits .or .i64 (bits .or .i64 x.a.st x.m) 128)) HBo.out).trans (by rw [show x.actor.st = _ from HA.out]; rfl))
        have HZL := hide (show ((y.setCell ⟨n + 1, 10, none⟩ (.int .i64 (bits .or .i64 x.a.st x.m))).setCell ⟨n + 1, 10, none⟩ (.int .i64 (bits .or .i64 (bits .or .i64 x.a.st x.m) 128))).heap[n]? = some (.cells #[.int .i64 0, .int .u8 0, .int .u8 0, .int .u8 0, .int .u8 0, .int .u8 0, .int .u8 0, .int .i64 0, .int .i64 0, .int .i64 0, .int .i64 0] 25 (0, 0)) from (Below.heap_setCell _ _ _ _ (by show n ≠ n + 1; omega)).trans HZo.out)
        have HFL := hide (HFo.out.setCell 10 (.int .i64 (bits .or .i64 (bits .or .i64 x.a.st x.m) 128)))
        clear HBo HZo HFo e10'
        go_wp2_with (first | (refine wpList_load_part rfl 25 (.tmp 3) rfl (n + 1) 0 rfl 25 _ #[.int .i64 x.actor.sp, .int .u8 x.actor.m0, .int .u8 x.actor.m1, .int .u8 x.actor.m2, .int .u8 x.actor.m3, .int .u8 x.actor.m4, .int .u8 x.actor.m5, .int .i64 x.actor.key, .int .i64 x.actor.pp, .int .i64 x.actor.port, .int .i64 x.actor.st] (0, 0) _ HL.out Try.underlying25 rfl (by kernel_rfl) rfl ?_) | (refine wpList_store_part rfl rfl n 0 #[.int .i64 x.actor.sp, .int .u8 x.actor.m0, .int .u8 x.actor.m1, .int .u8 x.actor.m2, .int .u8 x.actor.m3, .int .u8 x.actor.m4, .int .u8 x.actor.m5, .int .i64 x.actor.key, .int .i64 x.actor.pp, .int .i64 x.actor.port, .int .i64 x.actor.st] rfl rfl 25 HZL.out (by kernel_rfl) (by simp) (inf_one x.actor) #[.int .i64 x.actor.sp, .int .u8 x.actor.m0, .int .u8 x.actor.m1, .int .u8 x.actor.m2, .int .u8 x.actor.m3, .int .u8 x.actor.m4, .int .u8 x.actor.m5, .int .i64 x.actor.key, .int .i64 x.actor.pp, .int .i64 x.actor.port, .int .i64 x.actor.st] rfl ?_; intro w5 hf5 hb5; have HB5 := hide hb5; have HF5 := hide hf5; clear hf5 hb5))
        · (try simp only [Exit.inBlock, Exit.then])
          refine bodyPost_ret (results_inf rfl _ _ n x.actor rfl HB5.out) rfl ⟨rfl, ?_⟩
          have hF := HFL.out
          have hn := HNn.out
          exact ⟨HF5.out.os.trans hF.os, HF5.out.tape.trans hF.tape, HF5.out.output.trans hF.output, Nat.le_trans hF.size HF5.out.size, fun k hk => (HF5.out.block k (by have := hF.size; omega) (by intro e; injection e with e; omega)).trans (hF.block k hk (by intro e; injection e with e; omega))⟩
    · obtain rfl : S1 = false := by cases S1 <;> simp at h1 h2 ⊢ <;> omega
      have e10' : (y.setCell ⟨n + 1, 10, none⟩ (.int .i64 (bits .or .i64 x.a.st x.m))).cell? ⟨n + 1, 10, none⟩ = some (.int .i64 (bits .or .i64 x.a.st x.m)) := cell_of_row _ (n + 1) 10 _ 25 (0, 0) HBo.out
      have HL := hide (show ((y.setCell ⟨n + 1, 10, none⟩ (.int .i64 (bits .or .i64 x.a.st x.m))).setCell ⟨n + 1, 10, none⟩ (.int .i64 (bits .or .i64 (bits .or .i64 x.a.st x.m) 64))).heap[n + 1]? = some (.cells #[.int .i64 x.actor.sp, .int .u8 x.actor.m0, .int .u8 x.actor.m1, .int .u8 x.actor.m2, .int .u8 x.actor.m3, .int .u8 x.actor.m4, .int .u8 x.actor.m5, .int .i64 x.actor.key, .int .i64 x.actor.pp, .int .i64 x.actor.port, .int .i64 x.actor.st] 25 (0, 0)) from (heap_setCell_same _ (n + 1) 10 _ 25 (.int .i64 (bits .or .i64 (bits .or .i64 x.a.st x.m) 64)) HBo.out).trans (by rw [show x.actor.st = _ from HA.out]; rfl))
      have HZL := hide (show ((y.setCell ⟨n + 1, 10, none⟩ (.int .i64 (bits .or .i64 x.a.st x.m))).setCell ⟨n + 1, 10, none⟩ (.int .i64 (bits .or .i64 (bits .or .i64 x.a.st x.m) 64))).heap[n]? = some (.cells #[.int .i64 0, .int .u8 0, .int .u8 0, .int .u8 0, .int .u8 0, .int .u8 0, .int .u8 0, .int .i64 0, .int .i64 0, .int .i64 0, .int .i64 0] 25 (0, 0)) from (Below.heap_setCell _ _ _ _ (by show n ≠ n + 1; omega)).trans HZo.out)
      have HFL := hide (HFo.out.setCell 10 (.int .i64 (bits .or .i64 (bits .or .i64 x.a.st x.m) 64)))
      clear HBo HZo HFo e10'
      go_wp2_with (first | (refine wpList_load_part rfl 25 (.tmp 3) rfl (n + 1) 0 rfl 25 _ #[.int .i64 x.actor.sp, .int .u8 x.actor.m0, .int .u8 x.actor.m1, .int .u8 x.actor.m2, .int .u8 x.actor.m3, .int .u8 x.actor.m4, .int .u8 x.actor.m5, .int .i64 x.actor.key, .int .i64 x.actor.pp, .int .i64 x.actor.port, .int .i64 x.actor.st] (0, 0) _ HL.out Try.underlying25 rfl (by kernel_rfl) rfl ?_) | (refine wpList_store_part rfl rfl n 0 #[.int .i64 x.actor.sp, .int .u8 x.actor.m0, .int .u8 x.actor.m1, .int .u8 x.actor.m2, .int .u8 x.actor.m3, .int .u8 x.actor.m4, .int .u8 x.actor.m5, .int .i64 x.actor.key, .int .i64 x.actor.pp, .int .i64 x.actor.port, .int .i64 x.actor.st] rfl rfl 25 HZL.out (by kernel_rfl) (by simp) (inf_one x.actor) #[.int .i64 x.actor.sp, .int .u8 x.actor.m0, .int .u8 x.actor.m1, .int .u8 x.actor.m2, .int .u8 x.actor.m3, .int .u8 x.actor.m4, .int .u8 x.actor.m5, .int .i64 x.actor.key, .int .i64 x.actor.pp, .int .i64 x.actor.port, .int .i64 x.actor.st] rfl ?_; intro w5 hf5 hb5; have HB5 := hide hb5; have HF5 := hide hf5; clear hf5 hb5))
      · (try simp only [Exit.inBlock, Exit.then])
        refine bodyPost_ret (results_inf rfl _ _ n x.actor rfl HB5.out) rfl ⟨rfl, ?_⟩
        have hF := HFL.out
        have hn := HNn.out
        exact ⟨HF5.out.os.trans hF.os, HF5.out.tape.trans hF.tape, HF5.out.output.trans hF.output, Nat.le_trans hF.size HF5.out.size, fun k hk => (HF5.out.block k (by have := hF.size; omega) (by intro e; injection e with e; omega)).trans (hF.block k hk (by intro e; injection e with e; omega))⟩

set_option maxRecDepth 100000 in
set_option maxHeartbeats 4000000 in
theorem partner_any (g : Nat) (x : ES) (w : World) (h : EndAt w g 81 x) : Calls Try.prog 32 #[.pointer (some ⟨g, 0, none⟩)] w fun e w' => e = .returned (.agg #[.int .i64 x.p.sp, .int .u8 x.p.m0, .int .u8 x.p.m1, .int .u8 x.p.m2, .int .u8 x.p.m3, .int .u8 x.p.m4, .int .u8 x.p.m5, .int .i64 x.p.key, .int .i64 x.p.pp, .int .i64 x.p.port, .int .i64 x.p.st]) ∧ Below w.heap.size w w' := by
  have H0 := hide (show EndAt (w.alloc (.cells #[.int .i64 0, .int .u8 0, .int .u8 0, .int .u8 0, .int .u8 0, .int .u8 0, .int .u8 0, .int .i64 0, .int .i64 0, .int .i64 0, .int .i64 0] 25)) g 81 x from (Below.heap_alloc w _ g h.lt).trans h)
  have HZ := hide (heap_alloc_new w (.cells #[.int .i64 0, .int .u8 0, .int .u8 0, .int .u8 0, .int .u8 0, .int .u8 0, .int .u8 0, .int .i64 0, .int .i64 0, .int .i64 0, .int .i64 0] 25))
  have HF0 := hide ((Below.refl w.heap.size w).alloc (Nat.le_refl _) (.cells #[.int .i64 0, .int .u8 0, .int .u8 0, .int .u8 0, .int .u8 0, .int .u8 0, .int .u8 0, .int .i64 0, .int .i64 0, .int .i64 0, .int .i64 0] 25))
  clear h
  go_enter Try.func32, Try.ntmps32
  go_wp2_with (first | (refine wpList_load_part rfl 25 (.tmp 5) rfl g 11 rfl 81 _ #[.int .i64 x.p.sp, .int .u8 x.p.m0, .int .u8 x.p.m1, .int .u8 x.p.m2, .int .u8 x.p.m3, .int .u8 x.p.m4, .int .u8 x.p.m5, .int .i64 x.p.key, .int .i64 x.p.pp, .int .i64 x.p.port, .int .i64 x.p.st] (0, 0) _ H0.out Try.underlying25 rfl (by kernel_rfl) rfl ?_) | (refine wpList_store_part rfl rfl w.heap.size 0 #[.int .i64 x.p.sp, .int .u8 x.p.m0, .int .u8 x.p.m1, .int .u8 x.p.m2, .int .u8 x.p.m3, .int .u8 x.p.m4, .int .u8 x.p.m5, .int .i64 x.p.key, .int .i64 x.p.pp, .int .i64 x.p.port, .int .i64 x.p.st] rfl rfl 25 HZ.out (by kernel_rfl) (by simp) (inf_one x.p) #[.int .i64 x.p.sp, .int .u8 x.p.m0, .int .u8 x.p.m1, .int .u8 x.p.m2, .int .u8 x.p.m3, .int .u8 x.p.m4, .int .u8 x.p.m5, .int .i64 x.p.key, .int .i64 x.p.pp, .int .i64 x.p.port, .int .i64 x.p.st] rfl ?_; intro w2 hf2 hb2; have HB2 := hide hb2; have HF2 := hide hf2; clear hf2 hb2))
  · (try simp only [Exit.inBlock, Exit.then])
    refine bodyPost_ret (results_inf rfl _ _ w.heap.size x.p rfl HB2.out) rfl ⟨rfl, ?_⟩
    exact HF0.out.trans ((HF2.out.below (base := w.heap.size) (Nat.le_refl _) (by simp)).mono (Nat.le_refl _))

set_option maxRecDepth 100000 in
set_option maxHeartbeats 4000000 in
theorem bare_any (x : Inf) (w : World) : Calls Try.prog 63 #[.agg #[.int .i64 x.sp, .int .u8 x.m0, .int .u8 x.m1, .int .u8 x.m2, .int .u8 x.m3, .int .u8 x.m4, .int .u8 x.m5, .int .i64 x.key, .int .i64 x.pp, .int .i64 x.port, .int .i64 x.st]] w fun e w' => e = .returned (.agg #[.int .i64 x.sp, .int .u8 x.m0, .int .u8 x.m1, .int .u8 x.m2, .int .u8 x.m3, .int .u8 x.m4, .int .u8 x.m5, .int .i64 x.key, .int .i64 x.pp, .int .i64 x.port, .int .i64 (bits .and .i64 x.st 15)]) ∧ Below w.heap.size w w' := by
  have HK := hide (show ((w.alloc (.cells #[.int .i64 x.sp, .int .u8 x.m0, .int .u8 x.m1, .int .u8 x.m2, .int .u8 x.m3, .int .u8 x.m4, .int .u8 x.m5, .int .i64 x.key, .int .i64 x.pp, .int .i64 x.port, .int .i64 (bits .and .i64 x.st 15)] 25)).alloc (.cells #[.int .i64 0, .int .u8 0, .int .u8 0, .int .u8 0, .int .u8 0, .int .u8 0, .int .u8 0, .int .i64 0, .int .i64 0, .int .i64 0, .int .i64 0] 25)).heap[w.heap.size]? = some (.cells #[.int .i64 x.sp, .int .u8 x.m0, .int .u8 x.m1, .int .u8 x.m2, .int .u8 x.m3, .int .u8 x.m4, .int .u8 x.m5, .int .i64 x.key, .int .i64 x.pp, .int .i64 x.port, .int .i64 (bits .and .i64 x.st 15)] 25 (0, 0)) from (Below.heap_alloc _ _ _ (by simp)).trans (heap_alloc_new _ _))
  have HZ := hide (show ((w.alloc (.cells #[.int .i64 x.sp, .int .u8 x.m0, .int .u8 x.m1, .int .u8 x.m2, .int .u8 x.m3, .int .u8 x.m4, .int .u8 x.m5, .int .i64 x.key, .int .i64 x.pp, .int .i64 x.port, .int .i64 (bits .and .i64 x.st 15)] 25)).alloc (.cells #[.int .i64 0, .int .u8 0, .int .u8 0, .int .u8 0, .int .u8 0, .int .u8 0, .int .u8 0, .int .i64 0, .int .i64 0, .int .i64 0, .int .i64 0] 25)).heap[w.heap.size + 1]? = some (.cells #[.int .i64 0, .int .u8 0, .int .u8 0, .int .u8 0, .int .u8 0, .int .u8 0, .int .u8 0, .int .i64 0, .int .i64 0, .int .i64 0, .int .i64 0] 25 (0, 0)) from by simpa using heap_alloc_new (w.alloc (.cells #[.int .i64 x.sp, .int .u8 x.m0, .int .u8 x.m1, .int .u8 x.m2, .int .u8 x.m3, .int .u8 x.m4, .int .u8 x.m5, .int .i64 x.key, .int .i64 x.pp, .int .i64 x.port, .int .i64 (bits .and .i64 x.st 15)] 25)) (.cells #[.int .i64 0, .int .u8 0, .int .u8 0, .int .u8 0, .int .u8 0, .int .u8 0, .int .u8 0, .int .i64 0, .int .i64 0, .int .i64 0, .int .i64 0] 25))
  have HF0 := hide (((Below.refl w.heap.size w).alloc (Nat.le_refl _) (.cells #[.int .i64 x.sp, .int .u8 x.m0, .int .u8 x.m1, .int .u8 x.m2, .int .u8 x.m3, .int .u8 x.m4, .int .u8 x.m5, .int .i64 x.key, .int .i64 x.pp, .int .i64 x.port, .int .i64 (bits .and .i64 x.st 15)] 25)).alloc (by simp) (.cells #[.int .i64 0, .int .u8 0, .int .u8 0, .int .u8 0, .int .u8 0, .int .u8 0, .int .u8 0, .int .i64 0, .int .i64 0, .int .i64 0, .int .i64 0] 25))
  go_enter Try.func63, Try.ntmps63
  go_wp2_with (first | (refine wpList_load_part rfl 25 (.tmp 1) rfl w.heap.size 0 rfl 25 _ #[.int .i64 x.sp, .int .u8 x.m0, .int .u8 x.m1, .int .u8 x.m2, .int .u8 x.m3, .int .u8 x.m4, .int .u8 x.m5, .int .i64 x.key, .int .i64 x.pp, .int .i64 x.port, .int .i64 (bits .and .i64 x.st 15)] (0, 0) _ HK.out Try.underlying25 rfl (by kernel_rfl) rfl ?_) | (refine wpList_store_part rfl rfl (w.heap.size + 1) 0 #[.int .i64 x.sp, .int .u8 x.m0, .int .u8 x.m1, .int .u8 x.m2, .int .u8 x.m3, .int .u8 x.m4, .int .u8 x.m5, .int .i64 x.key, .int .i64 x.pp, .int .i64 x.port, .int .i64 (bits .and .i64 x.st 15)] rfl rfl 25 HZ.out (by kernel_rfl) (by simp) (inf_one { x with st := bits .and .i64 x.st 15 }) #[.int .i64 x.sp, .int .u8 x.m0, .int .u8 x.m1, .int .u8 x.m2, .int .u8 x.m3, .int .u8 x.m4, .int .u8 x.m5, .int .i64 x.key, .int .i64 x.pp, .int .i64 x.port, .int .i64 (bits .and .i64 x.st 15)] rfl ?_; intro w2 hf2 hb2; have HB2 := hide hb2; have HF2 := hide hf2; clear hf2 hb2))
  (try simp only [Exit.inBlock, Exit.then])
  refine bodyPost_ret (results_inf rfl _ _ (w.heap.size + 1) { x with st := bits .and .i64 x.st 15 } rfl HB2.out) rfl ⟨rfl, ?_⟩
  exact HF0.out.trans (HF2.out.below (base := w.heap.size) (by omega) (by simp; omega))
end Go.Proofs.Ytooieocfgifpgaa

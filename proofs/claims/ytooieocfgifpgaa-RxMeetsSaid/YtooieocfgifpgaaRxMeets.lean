/-
  Proved: RxMeets: two ends that hear one another three times over know one another, and have no more to tell; the law answers true.
  No condition.
-/
import Derived.Test.YtooieocfgifpgaaRxM
import Derived.Test.YtooieocfgifpgaaRxH
namespace Go.Proofs.Ytooieocfgifpgaa
open Go.RowKit Go.ChangeShapes Go.WideShapes Go.ChangeAt
set_option linter.unusedVariables false

/-- What a loop's head holds. -/
structure Rel (w0 : World) (a b : Inf) (mx my : Int) (g h : Nat) (k : Nat) (X Y : ES) (T1 T2 : Bool) (wr : World) : Prop where
  bel : Below w0.heap.size w0 wr
  gx : EndAt wr g 81 X
  hy : EndAt wr h 81 Y
  mx : Mt X a mx
  my : Mt Y b my
  two : 2 ≤ k → X.s = 3 ∧ Y.s = 3 ∧ X.p = Y.actor
  three : 3 ≤ k → T1 = false ∧ T2 = false ∧ Y.p = X.actor

theorem okNew_fine {a : Inf} (h : okNew a = true) : a.fine := by
  unfold okNew at h
  rw [Bool.and_eq_true] at h
  exact (Inf.ok_iff a).1 h.1

set_option maxRecDepth 100000 in
set_option maxHeartbeats 16000000 in
theorem rxMeets_any (a b : Inf) (n0 n1 : Int) (w : World) (ha : a.wf) (hb : b.wf) (hn0 : -9223372036854775808 ≤ n0 ∧ n0 ≤ 9223372036854775807) (hn1 : -9223372036854775808 ≤ n1 ∧ n1 ≤ 9223372036854775807) :
    Calls Try.prog 12 #[.agg #[.int .i64 a.sp, .int .u8 a.m0, .int .u8 a.m1, .int .u8 a.m2, .int .u8 a.m3, .int .u8 a.m4, .int .u8 a.m5, .int .i64 a.key, .int .i64 a.pp, .int .i64 a.port, .int .i64 a.st], .agg #[.int .i64 b.sp, .int .u8 b.m0, .int .u8 b.m1, .int .u8 b.m2, .int .u8 b.m3, .int .u8 b.m4, .int .u8 b.m5, .int .i64 b.key, .int .i64 b.pp, .int .i64 b.port, .int .i64 b.st], .agg #[.int .i64 n0, .int .i64 n1]] w fun e w' => e = .returned (.bool true) ∧ Below w.heap.size w w' := by
  have HA0 := hide (heap_alloc_new w (.cells #[.int .i64 a.sp, .int .u8 a.m0, .int .u8 a.m1, .int .u8 a.m2, .int .u8 a.m3, .int .u8 a.m4, .int .u8 a.m5, .int .i64 a.key, .int .i64 a.pp, .int .i64 a.port, .int .i64 a.st] 25))
  have HB0 := hide (heap_alloc_new (w.alloc (.cells #[.int .i64 a.sp, .int .u8 a.m0, .int .u8 a.m1, .int .u8 a.m2, .int .u8 a.m3, .int .u8 a.m4, .int .u8 a.m5, .int .i64 a.key, .int .i64 a.pp, .int .i64 a.port, .int .i64 a.st] 25)) (.cells #[.int .i64 b.sp, .int .u8 b.m0, .int .u8 b.m1, .int .u8 b.m2, .int .u8 b.m3, .int .u8 b.m4, .int .u8 b.m5, .int .i64 b.key, .int .i64 b.pp, .int .i64 b.port, .int .i64 b.st] 25))
  have HC0 := hide (heap_alloc_new ((w.alloc (.cells #[.int .i64 a.sp, .int .u8 a.m0, .int .u8 a.m1, .int .u8 a.m2, .int .u8 a.m3, .int .u8 a.m4, .int .u8 a.m5, .int .i64 a.key, .int .i64 a.pp, .int .i64 a.port, .int .i64 a.st] 25)).alloc (.cells #[.int .i64 b.sp, .int .u8 b.m0, .int .u8 b.m1, .int .u8 b.m2, .int .u8 b.m3, .int .u8 b.m4, .int .u8 b.m5, .int .i64 b.key, .int .i64 b.pp, .int .i64 b.port, .int .i64 b.st] 25)) (.cells #[.int .i64 n0, .int .i64 n1] 63))
  obtain ⟨sx, rx, ry⟩ := start_mt (a := a) hn0
  obtain ⟨sy, rx', ry'⟩ := start_mt (a := b) hn1
  have HSX := hide sx; have HSY := hide sy; have HMX := hide (And.intro rx ry); have HMY := hide (And.intro rx' ry')
  clear ha hb hn0 hn1 sx sy rx ry rx' ry'
  go_enter Try.func12, Try.ntmps12
  go_wp2_with fail
  refine (rxAwake_any _).mono ?_
  rintro e w1 ⟨rfl, hb1⟩
  have hz1 := hb1.size
  simp at hz1
  have hs1 : w.heap.size + 2 < w1.heap.size := by omega
  have HW1 := hide ((((Below.refl w.heap.size w).alloc (Nat.le_refl _) (.cells #[.int .i64 a.sp, .int .u8 a.m0, .int .u8 a.m1, .int .u8 a.m2, .int .u8 a.m3, .int .u8 a.m4, .int .u8 a.m5, .int .i64 a.key, .int .i64 a.pp, .int .i64 a.port, .int .i64 a.st] 25)).alloc (by first | (simp; done) | (simp; omega)) (.cells #[.int .i64 b.sp, .int .u8 b.m0, .int .u8 b.m1, .int .u8 b.m2, .int .u8 b.m3, .int .u8 b.m4, .int .u8 b.m5, .int .i64 b.key, .int .i64 b.pp, .int .i64 b.port, .int .i64 b.st] 25)).alloc (by first | (simp; done) | (simp; omega)) (.cells #[.int .i64 n0, .int .i64 n1] 63) |>.trans (hb1.mono (by first | (simp; done) | (simp; omega))))
  have HA1 := hide (show w1.heap[w.heap.size]? = some (.cells #[.int .i64 a.sp, .int .u8 a.m0, .int .u8 a.m1, .int .u8 a.m2, .int .u8 a.m3, .int .u8 a.m4, .int .u8 a.m5, .int .i64 a.key, .int .i64 a.pp, .int .i64 a.port, .int .i64 a.st] 25 (0, 0)) from (hb1.block w.heap.size (by first | (simp; done) | (simp; omega))).trans ((Below.heap_alloc _ _ _ (by first | (simp; done) | (simp; omega))).trans ((Below.heap_alloc _ _ _ (by first | (simp; done) | (simp; omega))).trans HA0.out)))
  have HB1 := hide (show w1.heap[w.heap.size + 1]? = some (.cells #[.int .i64 b.sp, .int .u8 b.m0, .int .u8 b.m1, .int .u8 b.m2, .int .u8 b.m3, .int .u8 b.m4, .int .u8 b.m5, .int .i64 b.key, .int .i64 b.pp, .int .i64 b.port, .int .i64 b.st] 25 (0, 0)) from (hb1.block (w.heap.size + 1) (by first | (simp; done) | (simp; omega))).trans ((Below.heap_alloc _ _ _ (by first | (simp; done) | (simp; omega))).trans (by simpa using HB0.out)))
  have HC1 := hide (show w1.heap[w.heap.size + 2]? = some (.cells #[.int .i64 n0, .int .i64 n1] 63 (0, 0)) from (hb1.block (w.heap.size + 2) (by first | (simp; done) | (simp; omega))).trans (by simpa using HC0.out))
  clear hb1 hz1 HA0 HB0 HC0
  go_wp2_with refine wpList_load_part rfl 25 (.tmp 3) rfl w.heap.size 0 rfl 25 _ #[.int .i64 a.sp, .int .u8 a.m0, .int .u8 a.m1, .int .u8 a.m2, .int .u8 a.m3, .int .u8 a.m4, .int .u8 a.m5, .int .i64 a.key, .int .i64 a.pp, .int .i64 a.port, .int .i64 a.st] (0, 0) _ HA1.out Try.underlying25 rfl (by kernel_rfl) rfl ?_
  refine (new_any a w1).mono ?_
  rintro e w2 (⟨hok, g, rfl, hg, hga, hb2⟩ | ⟨hok, rfl, hb2⟩)
  rotate_left
  · have HW2 := hide (HW1.out.trans (hb2.mono HW1.out.size))
    have HB2 := hide (show w2.heap[w.heap.size + 1]? = some (.cells #[.int .i64 b.sp, .int .u8 b.m0, .int .u8 b.m1, .int .u8 b.m2, .int .u8 b.m3, .int .u8 b.m4, .int .u8 b.m5, .int .i64 b.key, .int .i64 b.pp, .int .i64 b.port, .int .i64 b.st] 25 (0, 0)) from (hb2.block (w.heap.size + 1) (by omega)).trans HB1.out)
    clear hb2 HA1 HB1 HC1
    go_wp2_with refine wpList_load_part rfl 25 (.tmp 4) rfl (w.heap.size + 1) 0 rfl 25 _ #[.int .i64 b.sp, .int .u8 b.m0, .int .u8 b.m1, .int .u8 b.m2, .int .u8 b.m3, .int .u8 b.m4, .int .u8 b.m5, .int .i64 b.key, .int .i64 b.pp, .int .i64 b.port, .int .i64 b.st] (0, 0) _ HB2.out Try.underlying25 rfl (by kernel_rfl) rfl ?_
    refine (new_any b w2).mono ?_
    rintro e w3 (⟨hok', h, rfl, hh, hhb, hb3⟩ | ⟨hok', rfl, hb3⟩)
    all_goals
      have HW3 := hide (HW2.out.trans (hb3.mono HW2.out.size))
      clear hb3
      go_wp2_with fail
      go_ret
      exact ⟨by simp, HW3.out⟩
  have HW2 := hide (HW1.out.trans (hb2.mono HW1.out.size))
  have HA2 := hide (show w2.heap[w.heap.size]? = some (.cells #[.int .i64 a.sp, .int .u8 a.m0, .int .u8 a.m1, .int .u8 a.m2, .int .u8 a.m3, .int .u8 a.m4, .int .u8 a.m5, .int .i64 a.key, .int .i64 a.pp, .int .i64 a.port, .int .i64 a.st] 25 (0, 0)) from (hb2.block w.heap.size (by omega)).trans HA1.out)
  have HB2 := hide (show w2.heap[w.heap.size + 1]? = some (.cells #[.int .i64 b.sp, .int .u8 b.m0, .int .u8 b.m1, .int .u8 b.m2, .int .u8 b.m3, .int .u8 b.m4, .int .u8 b.m5, .int .i64 b.key, .int .i64 b.pp, .int .i64 b.port, .int .i64 b.st] 25 (0, 0)) from (hb2.block (w.heap.size + 1) (by omega)).trans HB1.out)
  have HC2 := hide (show w2.heap[w.heap.size + 2]? = some (.cells #[.int .i64 n0, .int .i64 n1] 63 (0, 0)) from (hb2.block (w.heap.size + 2) (by omega)).trans HC1.out)
  have hs2 : w.heap.size + 2 < w2.heap.size := by have := hb2.size; omega
  have HG2 := hide hga
  have hgl2 := HG2.out.lt
  have hwg : w.heap.size + 2 < g := by omega
  clear hb2 HA1 HB1 HC1 hga
  go_wp2_with refine wpList_load_part rfl 25 (.tmp 4) rfl (w.heap.size + 1) 0 rfl 25 _ #[.int .i64 b.sp, .int .u8 b.m0, .int .u8 b.m1, .int .u8 b.m2, .int .u8 b.m3, .int .u8 b.m4, .int .u8 b.m5, .int .i64 b.key, .int .i64 b.pp, .int .i64 b.port, .int .i64 b.st] (0, 0) _ HB2.out Try.underlying25 rfl (by kernel_rfl) rfl ?_
  refine (new_any b w2).mono ?_
  rintro e w3 (⟨hok', h, rfl, hh, hhb, hb3⟩ | ⟨hok', rfl, hb3⟩)
  rotate_left
  · have HW3 := hide (HW2.out.trans (hb3.mono HW2.out.size))
    clear hb3
    go_wp2_with fail
    go_ret
    exact ⟨by simp, HW3.out⟩
  have HW3 := hide (HW2.out.trans (hb3.mono HW2.out.size))
  have HA3 := hide (show w3.heap[w.heap.size]? = some (.cells #[.int .i64 a.sp, .int .u8 a.m0, .int .u8 a.m1, .int .u8 a.m2, .int .u8 a.m3, .int .u8 a.m4, .int .u8 a.m5, .int .i64 a.key, .int .i64 a.pp, .int .i64 a.port, .int .i64 a.st] 25 (0, 0)) from (hb3.block w.heap.size (by omega)).trans HA2.out)
  have HB3 := hide (show w3.heap[w.heap.size + 1]? = some (.cells #[.int .i64 b.sp, .int .u8 b.m0, .int .u8 b.m1, .int .u8 b.m2, .int .u8 b.m3, .int .u8 b.m4, .int .u8 b.m5, .int .i64 b.key, .int .i64 b.pp, .int .i64 b.port, .int .i64 b.st] 25 (0, 0)) from (hb3.block (w.heap.size + 1) (by omega)).trans HB2.out)
  have HC3 := hide (show w3.heap[w.heap.size + 2]? = some (.cells #[.int .i64 n0, .int .i64 n1] 63 (0, 0)) from (hb3.block (w.heap.size + 2) (by omega)).trans HC2.out)
  have HG3 := hide (HG2.out.below hb3)
  have HH3 := hide hhb
  have hgh : g < h := by omega
  have HFA := hide (okNew_fine hok); have HFB := hide (okNew_fine hok')
  clear hb3 HA2 HB2 HC2 HG2 hhb hs1 hs2 hgl2 hg hh hok hok' HW1 HW2
  have pa : w3.cell? ⟨w.heap.size, 9, none⟩ = some (.int .i64 a.port) := cell_of_row w3 _ 9 _ 25 (0, 0) HA3.out
  have pb : w3.cell? ⟨w.heap.size + 1, 9, none⟩ = some (.int .i64 b.port) := cell_of_row w3 _ 9 _ 25 (0, 0) HB3.out
  have hm := fun u => run_eqM23 u a b
  obtain ⟨M, hM⟩ : ∃ M, eqM a b = M := ⟨_, rfl⟩
  obtain ⟨E, hE⟩ : ∃ E, (a.port == b.port) = E := ⟨_, rfl⟩
  rw [hM] at hm
  by_cases hME : (M && E) = true
  · rw [Bool.and_eq_true] at hME
    obtain ⟨rfl, rfl⟩ := hME
    go_wp2_with (first | refine wpList_load_g (ty := 23) (x := .tmp 45) rfl rfl w.heap.size 1 rfl 25 #[.int .u8 a.m0, .int .u8 a.m1, .int .u8 a.m2, .int .u8 a.m3, .int .u8 a.m4, .int .u8 a.m5] (0, 0) _ HA3.out Try.underlying23 rfl (by kernel_rfl) rfl ?_ | refine wpList_load_g (ty := 23) (x := .tmp 47) rfl rfl (w.heap.size + 1) 1 rfl 25 #[.int .u8 b.m0, .int .u8 b.m1, .int .u8 b.m2, .int .u8 b.m3, .int .u8 b.m4, .int .u8 b.m5] (0, 0) _ HB3.out Try.underlying23 rfl (by kernel_rfl) rfl ?_)
    go_ret
    exact ⟨by simp, HW3.out⟩
  have HNE := hide (show (eqM a b && (a.port == b.port)) = false by rw [hM, hE]; simpa using hME)
  have hlate : M = false ∨ (M = true ∧ E = false) := by cases M <;> cases E <;> simp_all
  clear hME hM
  rcases hlate with rfl | ⟨rfl, rfl⟩
  all_goals
    have hgl3 := HG3.out.lt
    have hhl3 := HH3.out.lt
    have pc : w3.cell? ⟨w.heap.size + 2, 0, none⟩ = some (.int .i64 n0) := cell_of_row w3 _ 0 _ 63 (0, 0) HC3.out
    have pd : w3.cell? ⟨w.heap.size + 2, 1, none⟩ = some (.int .i64 n1) := cell_of_row w3 _ 1 _ 63 (0, 0) HC3.out
    go_wp2_with (first | refine wpList_load_g (ty := 23) (x := .tmp 45) rfl rfl w.heap.size 1 rfl 25 #[.int .u8 a.m0, .int .u8 a.m1, .int .u8 a.m2, .int .u8 a.m3, .int .u8 a.m4, .int .u8 a.m5] (0, 0) _ HA3.out Try.underlying23 rfl (by kernel_rfl) rfl ?_ | refine wpList_load_g (ty := 23) (x := .tmp 47) rfl rfl (w.heap.size + 1) 1 rfl 25 #[.int .u8 b.m0, .int .u8 b.m1, .int .u8 b.m2, .int .u8 b.m3, .int .u8 b.m4, .int .u8 b.m5] (0, 0) _ HB3.out Try.underlying23 rfl (by kernel_rfl) rfl ?_)
    refine (enable_any g _ true 0 w3 HG3.out).mono ?_
    rintro e w4 ⟨rfl, hg4, hf4⟩
    have HW4 := hide (HW3.out.trans (hf4.below (by omega) HW3.out.size))
    have HG4 := hide hg4
    have HH4 := hide (HH3.out.frm hf4 (by omega))
    have HC4 := hide (hf4.keep HC3.out (by omega))
    clear hg4 hf4 pa pb pc pd HA3 HB3 HC3 HG3 HH3 hm
    go_wp2_with fail
    refine (enable_any h _ true 0 w4 HH4.out).mono ?_
    rintro e w5 ⟨rfl, hg5, hf5⟩
    have HW5 := hide (HW4.out.trans (hf5.below (by omega) HW4.out.size))
    have HH5 := hide hg5
    have HG5 := hide (HG4.out.frm hf5 (by omega))
    have HC5 := hide (hf5.keep HC4.out (by omega))
    have pc : w5.cell? ⟨w.heap.size + 2, 0, none⟩ = some (.int .i64 n0) := cell_of_row w5 _ 0 _ 63 (0, 0) HC5.out
    clear hg5 hf5 HC4 HG4 HH4
    go_wp2_with fail
    refine (mux_any g _ n0 w5 HG5.out).mono ?_
    rintro e w6 ⟨rfl, hg6, hf6⟩
    have HW6 := hide (HW5.out.trans (hf6.below (by omega) HW5.out.size))
    have HG6 := hide hg6
    have HH6 := hide (HH5.out.frm hf6 (by omega))
    have HC6 := hide (hf6.keep HC5.out (by omega))
    have pd : w6.cell? ⟨w.heap.size + 2, 1, none⟩ = some (.int .i64 n1) := cell_of_row w6 _ 1 _ 63 (0, 0) HC6.out
    clear hg6 hf6 HC5 HG5 HH5 pc
    go_wp2_with fail
    refine (mux_any h _ n1 w6 HH6.out).mono ?_
    rintro e w7 ⟨rfl, hg7, hf7⟩
    have HW7 := hide (HW6.out.trans (hf7.below (by omega) HW6.out.size))
    have HH7 := hide hg7
    have HG7 := hide (HG6.out.frm hf7 (by omega))
    clear hg7 hf7 HC6 HG6 HH6 pd
    obtain ⟨X0, hX0⟩ : ∃ x, x = startE a n0 := ⟨_, rfl⟩
    obtain ⟨Y0, hY0⟩ : ∃ x, x = startE b n1 := ⟨_, rfl⟩
    have HGX := hide (show EndAt w7 g 81 X0 from hX0 ▸ HG7.out)
    have HHY := hide (show EndAt w7 h 81 Y0 from hY0 ▸ HH7.out)
    have HTX := hide (show Mt X0 a (mxOf n0) from hX0 ▸ HSX.out)
    have HTY := hide (show Mt Y0 b (mxOf n1) from hY0 ▸ HSY.out)
    clear hX0 hY0 HG7 HH7 HSX HSY
    go_wp2_with fail
    go_loopw [12, 13, 14] (fun v1 v2 i wr => ∃ (k : Nat) (X Y : ES) (T1 T2 : Bool), 1 ≤ k ∧ k ≤ 4 ∧ i = .int .i64 k ∧ v1 = .bool T1 ∧ v2 = .bool T2 ∧ Rel w a b (mxOf n0) (mxOf n1) g h k X Y T1 T2 wr)
      (fun _ _ i _ => 4 - (intOf i).toNat)
    case atStart => exact ⟨1, X0, Y0, true, true, by omega, by omega, rfl, rfl, rfl, HW7.out, HGX.out, HHY.out, HTX.out, HTY.out, by omega, by omega⟩
    case round =>
      obtain ⟨k, X, Y, T1, T2, hk1, hk4, rfl, rfl, rfl, hR⟩ := hrel
      have HR := hide hR; clear hR
      have hk0 : (1 : Int) ≤ (k : Int) := by omega
      by_cases hlt : k < 4
      · have hki : (k : Int) < 4 := by omega
        obtain ⟨r1, r2, r3, r4, r5, r6, r7, r8⟩ := round_ok (now := (k : Int)) HR.out.mx HR.out.my HFA.out HFB.out HMX.out HMY.out (by omega) HNE.out
        have HGa := hide HR.out.gx; have HHa := hide HR.out.hy; have HWa := hide HR.out.bel
        have HTw := hide HR.out.two; have HTh := hide HR.out.three
        have hgla := HGa.out.lt; have hhla := HHa.out.lt
        go_wp2_with fail
        refine (actor_any g X wr HGa.out).mono ?_
        rintro e wb ⟨rfl, hbb⟩
        have HGb := hide (HGa.out.below hbb); have HHb := hide (HHa.out.below hbb); have HWb := hide (HWa.out.trans (hbb.mono HWa.out.size))
        clear hbb HGa HHa
        go_wp2_with fail
        refine (partner_any g X wb HGb.out).mono ?_
        rintro e wc ⟨rfl, hbc⟩
        have HGc := hide (HGb.out.below hbc); have HHc := hide (HHb.out.below hbc); have HWc := hide (HWb.out.trans (hbc.mono HWb.out.size))
        clear hbc HGb HHb
        go_wp2_with fail
        refine (take_any h Y X.actor X.p 0 (k : Int) wc HHc.out).mono ?_
        rintro e wd ⟨rfl, hhd, hfd⟩
        rw [r1]
        obtain ⟨Y', hY'⟩ : ∃ y, y = Y.take X.actor X.p 0 (k : Int) := ⟨_, rfl⟩
        obtain ⟨T1', hT1'⟩ : ∃ y, y = Y.takeT X.actor X.p 0 (k : Int) := ⟨_, rfl⟩
        rw [← hY'] at hhd r2 r3 r4 r5 r6 r7 r8
        rw [← hT1'] at r8 ⊢
        have HHd := hide hhd; have HGd := hide (HGc.out.frm hfd (by omega)); have HWd := hide (HWc.out.trans (hfd.below (by omega) HWc.out.size))
        have HY' := hide hY'; have HT1' := hide hT1'
        clear hhd hfd hY' hT1' HGc HHc
        go_wp2_with fail
        refine (actor_any h Y' wd HHd.out).mono ?_
        rintro e we ⟨rfl, hbe⟩
        have HGe := hide (HGd.out.below hbe); have HHe := hide (HHd.out.below hbe); have HWe := hide (HWd.out.trans (hbe.mono HWd.out.size))
        clear hbe HGd HHd
        go_wp2_with fail
        refine (partner_any h Y' we HHe.out).mono ?_
        rintro e wf ⟨rfl, hbf⟩
        have HGf := hide (HGe.out.below hbf); have HHf := hide (HHe.out.below hbf); have HWf := hide (HWe.out.trans (hbf.mono HWe.out.size))
        clear hbf HGe HHe
        go_wp2_with fail
        refine (take_any g X Y'.actor Y'.p 0 (k : Int) wf HGf.out).mono ?_
        rintro e wg ⟨rfl, hgg, hfg⟩
        rw [r4]
        obtain ⟨X', hX'⟩ : ∃ y, y = X.take Y'.actor Y'.p 0 (k : Int) := ⟨_, rfl⟩
        obtain ⟨T2', hT2'⟩ : ∃ y, y = X.takeT Y'.actor Y'.p 0 (k : Int) := ⟨_, rfl⟩
        rw [← hX'] at hgg r5 r6 r7
        rw [← hT2'] at r8 ⊢
        have HGg := hide hgg; have HHg := hide (HHf.out.frm hfg (by omega)); have HWg := hide (HWf.out.trans (hfg.below (by omega) HWf.out.size))
        have HX' := hide hX'
        have R2 := hide r2; have R3 := hide r3; have R5 := hide r5; have R6 := hide r6; have R7 := hide r7; have R8 := hide r8
        clear hgg hfg hX' hT2' HGf HHf r1 r2 r3 r4 r5 r6 r7 r8
        go_wp2_with fail
        go_roundw
        case rel =>
          refine ⟨k + 1, X', Y', T1', T2', by omega, by omega, by go_num, rfl, rfl, HWg.out, HGg.out, HHg.out, R5.out, R2.out, fun _ => ⟨R6.out, R3.out, R7.out⟩, fun h3 => ?_⟩
          obtain ⟨t1, t2, t3⟩ := HTw.out (by omega)
          obtain ⟨q1, q2, q3⟩ := R8.out t1 t2 t3
          refine ⟨q2, q3, ?_⟩
          rw [q1, HR.out.mx.act3 t1, R5.out.act3 R6.out]
        case measure => simp [intOf]; omega
      · have hki : ¬ (k : Int) < 4 := by omega
        have hk : k = 4 := by omega
        obtain ⟨t1, t2, t3⟩ := HR.out.two (by omega)
        obtain ⟨u1, u2, u3⟩ := HR.out.three (by omega)
        subst u1 u2
        obtain ⟨U, hU⟩ : ∃ U, U = X.p := ⟨_, rfl⟩
        obtain ⟨V, hV⟩ : ∃ V, V = Y.p := ⟨_, rfl⟩
        have HPX := hide (fun u (he : EndAt u g 81 X) => by have := partner_any g X u he; rw [← hU] at this; exact this)
        have HPY := hide (fun u (he : EndAt u h 81 Y) => by have := partner_any h Y u he; rw [← hV] at this; exact this)
        have HAX := hide (fun u (he : EndAt u g 81 X) => by have := actor_any g X u he; rw [← u3, ← hV] at this; exact this)
        have HAY := hide (fun u (he : EndAt u h 81 Y) => by have := actor_any h Y u he; rw [← t3, ← hU] at this; exact this)
        have HGa := hide HR.out.gx; have HHa := hide HR.out.hy; have HWa := hide HR.out.bel
        have hgla := HGa.out.lt; have hhla := HHa.out.lt
        clear t1 t2 t3 u3 hU hV HFA HFB HMX HMY HNE HR
        go_wp2_with fail
        refine (HPX.out wr HGa.out).mono ?_
        rintro e v1 ⟨rfl, hbx⟩
        have HGc1 := hide (HGa.out.below hbx); have HHc1 := hide (HHa.out.below hbx); have HWc1 := hide (HWa.out.trans (hbx.mono HWa.out.size))
        have hzc1 := hbx.size
        have hglc1 := HGc1.out.lt; have hhlc1 := HHc1.out.lt
        clear hbx HGa HHa
        have HZ := hide (heap_alloc_new v1 (.cells #[.int .i64 0, .int .u8 0, .int .u8 0, .int .u8 0, .int .u8 0, .int .u8 0, .int .u8 0, .int .i64 0, .int .i64 0, .int .i64 0, .int .i64 0] 25))
        have HGz := hide (show EndAt (v1.alloc (.cells #[.int .i64 0, .int .u8 0, .int .u8 0, .int .u8 0, .int .u8 0, .int .u8 0, .int .u8 0, .int .i64 0, .int .i64 0, .int .i64 0, .int .i64 0] 25)) g 81 X from (Below.heap_alloc v1 _ g hglc1).trans HGc1.out)
        have HHz := hide (show EndAt (v1.alloc (.cells #[.int .i64 0, .int .u8 0, .int .u8 0, .int .u8 0, .int .u8 0, .int .u8 0, .int .u8 0, .int .i64 0, .int .i64 0, .int .i64 0, .int .i64 0] 25)) h 81 Y from (Below.heap_alloc v1 _ h hhlc1).trans HHc1.out)
        go_upto_region 22 with (refine wpList_store_part rfl rfl v1.heap.size 0 #[.int .i64 U.sp, .int .u8 U.m0, .int .u8 U.m1, .int .u8 U.m2, .int .u8 U.m3, .int .u8 U.m4, .int .u8 U.m5, .int .i64 U.key, .int .i64 U.pp, .int .i64 U.port, .int .i64 U.st] rfl rfl 25 HZ.out (by kernel_rfl) (by simp) (inf_one U) #[.int .i64 U.sp, .int .u8 U.m0, .int .u8 U.m1, .int .u8 U.m2, .int .u8 U.m3, .int .u8 U.m4, .int .u8 U.m5, .int .i64 U.key, .int .i64 U.pp, .int .i64 U.port, .int .i64 U.st] rfl ?_; intro x1 hfx hbx; have Kpd1 := hide hbx; have HFx := hide hfx; clear hfx hbx)
        try simp only [Act.put]
        have HGd1 := hide (HGz.out.frm HFx.out (by omega)); have HHd1 := hide (HHz.out.frm HFx.out (by omega))
        have HWd1 := hide ((HWc1.out.alloc HWc1.out.size (.cells #[.int .i64 0, .int .u8 0, .int .u8 0, .int .u8 0, .int .u8 0, .int .u8 0, .int .u8 0, .int .i64 0, .int .i64 0, .int .i64 0, .int .i64 0] 25)).trans (HFx.out.below (by have := HWc1.out.size; omega) (by have := HWc1.out.size; simp; omega)))
        obtain ⟨p, hp⟩ : ∃ p, p = v1.heap.size := ⟨_, rfl⟩
        have hsd1 : p < x1.heap.size := by have := HFx.out.size; simp at this; omega
        have hlop : g < p ∧ h < p := by omega
        rw [← hp] at Kpd1 ⊢
        clear hp HZ HGz HHz HGc1 HHc1 HWa HFx hzc1 hglc1 hhlc1 
        have hgld1 := HGd1.out.lt; have hhld1 := HHd1.out.lt
        go_wp2_with fail
        refine (HPY.out x1 HHd1.out).mono ?_
        rintro e v2 ⟨rfl, hbx⟩
        have HGc2 := hide (HGd1.out.below hbx); have HHc2 := hide (HHd1.out.below hbx); have HWc2 := hide (HWd1.out.trans (hbx.mono HWd1.out.size))
        have hzc2 := hbx.size
        have Kpc2 := hide ((hbx.block p (by omega)).trans Kpd1.out)
        have hglc2 := HGc2.out.lt; have hhlc2 := HHc2.out.lt
        clear hbx HGd1 HHd1 Kpd1
        have HZ := hide (heap_alloc_new v2 (.cells #[.int .i64 0, .int .u8 0, .int .u8 0, .int .u8 0, .int .u8 0, .int .u8 0, .int .u8 0, .int .i64 0, .int .i64 0, .int .i64 0, .int .i64 0] 25))
        have HGz := hide (show EndAt (v2.alloc (.cells #[.int .i64 0, .int .u8 0, .int .u8 0, .int .u8 0, .int .u8 0, .int .u8 0, .int .u8 0, .int .i64 0, .int .i64 0, .int .i64 0, .int .i64 0] 25)) g 81 X from (Below.heap_alloc v2 _ g hglc2).trans HGc2.out)
        have HHz := hide (show EndAt (v2.alloc (.cells #[.int .i64 0, .int .u8 0, .int .u8 0, .int .u8 0, .int .u8 0, .int .u8 0, .int .u8 0, .int .i64 0, .int .i64 0, .int .i64 0, .int .i64 0] 25)) h 81 Y from (Below.heap_alloc v2 _ h hhlc2).trans HHc2.out)
        have Kpz := hide (show (v2.alloc (.cells #[.int .i64 0, .int .u8 0, .int .u8 0, .int .u8 0, .int .u8 0, .int .u8 0, .int .u8 0, .int .i64 0, .int .i64 0, .int .i64 0, .int .i64 0] 25)).heap[p]? = some (.cells #[.int .i64 U.sp, .int .u8 U.m0, .int .u8 U.m1, .int .u8 U.m2, .int .u8 U.m3, .int .u8 U.m4, .int .u8 U.m5, .int .i64 U.key, .int .i64 U.pp, .int .i64 U.port, .int .i64 U.st] 25 (0, 0)) from (Below.heap_alloc v2 _ p (by omega)).trans Kpc2.out)
        go_upto_region 23 with (refine wpList_store_part rfl rfl v2.heap.size 0 #[.int .i64 V.sp, .int .u8 V.m0, .int .u8 V.m1, .int .u8 V.m2, .int .u8 V.m3, .int .u8 V.m4, .int .u8 V.m5, .int .i64 V.key, .int .i64 V.pp, .int .i64 V.port, .int .i64 V.st] rfl rfl 25 HZ.out (by kernel_rfl) (by simp) (inf_one V) #[.int .i64 V.sp, .int .u8 V.m0, .int .u8 V.m1, .int .u8 V.m2, .int .u8 V.m3, .int .u8 V.m4, .int .u8 V.m5, .int .i64 V.key, .int .i64 V.pp, .int .i64 V.port, .int .i64 V.st] rfl ?_; intro x2 hfx hbx; have Kqd2 := hide hbx; have HFx := hide hfx; clear hfx hbx)
        try simp only [Act.put]
        have HGd2 := hide (HGz.out.frm HFx.out (by omega)); have HHd2 := hide (HHz.out.frm HFx.out (by omega))
        have Kpd2 := hide (HFx.out.keep Kpz.out (by omega))
        have HWd2 := hide ((HWc2.out.alloc HWc2.out.size (.cells #[.int .i64 0, .int .u8 0, .int .u8 0, .int .u8 0, .int .u8 0, .int .u8 0, .int .u8 0, .int .i64 0, .int .i64 0, .int .i64 0, .int .i64 0] 25)).trans (HFx.out.below (by have := HWc2.out.size; omega) (by have := HWc2.out.size; simp; omega)))
        obtain ⟨q, hq⟩ : ∃ q, q = v2.heap.size := ⟨_, rfl⟩
        have hsd2 : q < x2.heap.size := by have := HFx.out.size; simp at this; omega
        have hloq : g < q ∧ h < q ∧ p < q := by omega
        rw [← hq] at Kqd2 ⊢
        clear hq HZ HGz HHz HGc2 HHc2 HWd1 HFx hzc2 hglc2 hhlc2 Kpz Kpc2
        have hgld2 := HGd2.out.lt; have hhld2 := HHd2.out.lt
        obtain ⟨U8, hU8⟩ : ∃ z, z = ({ U with st := bits .or .i64 U.st 8 } : Inf) := ⟨_, rfl⟩
        obtain ⟨V8, hV8⟩ : ∃ z, z = ({ V with st := bits .or .i64 V.st 8 } : Inf) := ⟨_, rfl⟩
        have HEU8 := hide hU8; have HEV8 := hide hV8; clear hU8 hV8
        have q10 : x2.cell? ⟨p, 10, none⟩ = some (.int .i64 U.st) := cell_of_row x2 _ 10 _ 25 (0, 0) Kpd2.out
        have z10 : x2.frozen? ⟨p, 10, none⟩ = false := frozen_of_row x2 p 10 _ 25 Kpd2.out
        obtain ⟨x3, hw2⟩ : ∃ u, u = x2.setCell ⟨p, 10, none⟩ (.int .i64 (bits .or .i64 U.st 8)) := ⟨_, rfl⟩
        have HEq := hide hw2
        have hfx : Frm x2 x3 p := by rw [hw2]; exact (Frm.refl x2 p).setCell 10 _
        have Kpd3 := hide (show x3.heap[p]? = some (.cells #[.int .i64 U8.sp, .int .u8 U8.m0, .int .u8 U8.m1, .int .u8 U8.m2, .int .u8 U8.m3, .int .u8 U8.m4, .int .u8 U8.m5, .int .i64 U8.key, .int .i64 U8.pp, .int .i64 U8.port, .int .i64 U8.st] 25 (0, 0)) by rw [hw2, heap_setCell_same x2 p 10 _ 25 (.int .i64 (bits .or .i64 U.st 8)) Kpd2.out, HEU8.out]; rfl)
        have HGd3 := hide (HGd2.out.frm hfx (by omega)); have HHd3 := hide (HHd2.out.frm hfx (by omega))
        have Kqd3 := hide (hfx.keep Kqd2.out (by omega))
        have HWd3 := hide (HWd2.out.trans (hfx.below (by have := HWd2.out.size; omega) HWd2.out.size))
        have hzz := hfx.size
        go_upto_region 24 with fail
        try simp only [Act.put]
        rw [← HEq.out]
        clear q10 z10 hw2 HEq hfx HGd2 HHd2 HWd2 Kpd2 Kqd2
        have hgld3 := HGd3.out.lt; have hhld3 := HHd3.out.lt
        have q10 : x3.cell? ⟨q, 10, none⟩ = some (.int .i64 V.st) := cell_of_row x3 _ 10 _ 25 (0, 0) Kqd3.out
        have z10 : x3.frozen? ⟨q, 10, none⟩ = false := frozen_of_row x3 q 10 _ 25 Kqd3.out
        obtain ⟨x4, hw2⟩ : ∃ u, u = x3.setCell ⟨q, 10, none⟩ (.int .i64 (bits .or .i64 V.st 8)) := ⟨_, rfl⟩
        have HEq := hide hw2
        have hfx : Frm x3 x4 q := by rw [hw2]; exact (Frm.refl x3 q).setCell 10 _
        have Kqd4 := hide (show x4.heap[q]? = some (.cells #[.int .i64 V8.sp, .int .u8 V8.m0, .int .u8 V8.m1, .int .u8 V8.m2, .int .u8 V8.m3, .int .u8 V8.m4, .int .u8 V8.m5, .int .i64 V8.key, .int .i64 V8.pp, .int .i64 V8.port, .int .i64 V8.st] 25 (0, 0)) by rw [hw2, heap_setCell_same x3 q 10 _ 25 (.int .i64 (bits .or .i64 V.st 8)) Kqd3.out, HEV8.out]; rfl)
        have HGd4 := hide (HGd3.out.frm hfx (by omega)); have HHd4 := hide (HHd3.out.frm hfx (by omega))
        have Kpd4 := hide (hfx.keep Kpd3.out (by omega))
        have HWd4 := hide (HWd3.out.trans (hfx.below (by have := HWd3.out.size; omega) HWd3.out.size))
        have hzz := hfx.size
        go_upto_region 25 with fail
        try simp only [Act.put]
        rw [← HEq.out]
        clear q10 z10 hw2 HEq hfx HGd3 HHd3 HWd3 Kpd3 Kqd3
        have hgld4 := HGd4.out.lt; have hhld4 := HHd4.out.lt
        go_wp2_with fail
        refine (HAX.out x4 HGd4.out).mono ?_
        rintro e v5 ⟨rfl, hbx⟩
        have HGc5 := hide (HGd4.out.below hbx); have HHc5 := hide (HHd4.out.below hbx); have HWc5 := hide (HWd4.out.trans (hbx.mono HWd4.out.size))
        have hzc5 := hbx.size
        have Kpc5 := hide ((hbx.block p (by omega)).trans Kpd4.out)
        have Kqc5 := hide ((hbx.block q (by omega)).trans Kqd4.out)
        have hglc5 := HGc5.out.lt; have hhlc5 := HHc5.out.lt
        clear hbx HGd4 HHd4 Kpd4 Kqd4
        have HZ := hide (heap_alloc_new v5 (.cells #[.int .i64 0, .int .u8 0, .int .u8 0, .int .u8 0, .int .u8 0, .int .u8 0, .int .u8 0, .int .i64 0, .int .i64 0, .int .i64 0, .int .i64 0] 25))
        have HGz := hide (show EndAt (v5.alloc (.cells #[.int .i64 0, .int .u8 0, .int .u8 0, .int .u8 0, .int .u8 0, .int .u8 0, .int .u8 0, .int .i64 0, .int .i64 0, .int .i64 0, .int .i64 0] 25)) g 81 X from (Below.heap_alloc v5 _ g hglc5).trans HGc5.out)
        have HHz := hide (show EndAt (v5.alloc (.cells #[.int .i64 0, .int .u8 0, .int .u8 0, .int .u8 0, .int .u8 0, .int .u8 0, .int .u8 0, .int .i64 0, .int .i64 0, .int .i64 0, .int .i64 0] 25)) h 81 Y from (Below.heap_alloc v5 _ h hhlc5).trans HHc5.out)
        have Kpz := hide (show (v5.alloc (.cells #[.int .i64 0, .int .u8 0, .int .u8 0, .int .u8 0, .int .u8 0, .int .u8 0, .int .u8 0, .int .i64 0, .int .i64 0, .int .i64 0, .int .i64 0] 25)).heap[p]? = some (.cells #[.int .i64 U8.sp, .int .u8 U8.m0, .int .u8 U8.m1, .int .u8 U8.m2, .int .u8 U8.m3, .int .u8 U8.m4, .int .u8 U8.m5, .int .i64 U8.key, .int .i64 U8.pp, .int .i64 U8.port, .int .i64 U8.st] 25 (0, 0)) from (Below.heap_alloc v5 _ p (by omega)).trans Kpc5.out)
        have Kqz := hide (show (v5.alloc (.cells #[.int .i64 0, .int .u8 0, .int .u8 0, .int .u8 0, .int .u8 0, .int .u8 0, .int .u8 0, .int .i64 0, .int .i64 0, .int .i64 0, .int .i64 0] 25)).heap[q]? = some (.cells #[.int .i64 V8.sp, .int .u8 V8.m0, .int .u8 V8.m1, .int .u8 V8.m2, .int .u8 V8.m3, .int .u8 V8.m4, .int .u8 V8.m5, .int .i64 V8.key, .int .i64 V8.pp, .int .i64 V8.port, .int .i64 V8.st] 25 (0, 0)) from (Below.heap_alloc v5 _ q (by omega)).trans Kqc5.out)
        go_upto_region 26 with (refine wpList_store_part rfl rfl v5.heap.size 0 #[.int .i64 V.sp, .int .u8 V.m0, .int .u8 V.m1, .int .u8 V.m2, .int .u8 V.m3, .int .u8 V.m4, .int .u8 V.m5, .int .i64 V.key, .int .i64 V.pp, .int .i64 V.port, .int .i64 V.st] rfl rfl 25 HZ.out (by kernel_rfl) (by simp) (inf_one V) #[.int .i64 V.sp, .int .u8 V.m0, .int .u8 V.m1, .int .u8 V.m2, .int .u8 V.m3, .int .u8 V.m4, .int .u8 V.m5, .int .i64 V.key, .int .i64 V.pp, .int .i64 V.port, .int .i64 V.st] rfl ?_; intro x5 hfx hbx; have Krd5 := hide hbx; have HFx := hide hfx; clear hfx hbx)
        try simp only [Act.put]
        have HGd5 := hide (HGz.out.frm HFx.out (by omega)); have HHd5 := hide (HHz.out.frm HFx.out (by omega))
        have Kpd5 := hide (HFx.out.keep Kpz.out (by omega))
        have Kqd5 := hide (HFx.out.keep Kqz.out (by omega))
        have HWd5 := hide ((HWc5.out.alloc HWc5.out.size (.cells #[.int .i64 0, .int .u8 0, .int .u8 0, .int .u8 0, .int .u8 0, .int .u8 0, .int .u8 0, .int .i64 0, .int .i64 0, .int .i64 0, .int .i64 0] 25)).trans (HFx.out.below (by have := HWc5.out.size; omega) (by have := HWc5.out.size; simp; omega)))
        obtain ⟨r, hr⟩ : ∃ r, r = v5.heap.size := ⟨_, rfl⟩
        have hsd5 : r < x5.heap.size := by have := HFx.out.size; simp at this; omega
        have hlor : g < r ∧ h < r ∧ p < r ∧ q < r := by omega
        rw [← hr] at Krd5 ⊢
        clear hr HZ HGz HHz HGc5 HHc5 HWd4 HFx hzc5 hglc5 hhlc5 Kpz Kpc5 Kqz Kqc5
        have hgld5 := HGd5.out.lt; have hhld5 := HHd5.out.lt
        go_wp2_with fail
        refine (HAY.out x5 HHd5.out).mono ?_
        rintro e v6 ⟨rfl, hbx⟩
        have HGc6 := hide (HGd5.out.below hbx); have HHc6 := hide (HHd5.out.below hbx); have HWc6 := hide (HWd5.out.trans (hbx.mono HWd5.out.size))
        have hzc6 := hbx.size
        have Kpc6 := hide ((hbx.block p (by omega)).trans Kpd5.out)
        have Kqc6 := hide ((hbx.block q (by omega)).trans Kqd5.out)
        have Krc6 := hide ((hbx.block r (by omega)).trans Krd5.out)
        have hglc6 := HGc6.out.lt; have hhlc6 := HHc6.out.lt
        clear hbx HGd5 HHd5 Kpd5 Kqd5 Krd5
        have HZ := hide (heap_alloc_new v6 (.cells #[.int .i64 0, .int .u8 0, .int .u8 0, .int .u8 0, .int .u8 0, .int .u8 0, .int .u8 0, .int .i64 0, .int .i64 0, .int .i64 0, .int .i64 0] 25))
        have HGz := hide (show EndAt (v6.alloc (.cells #[.int .i64 0, .int .u8 0, .int .u8 0, .int .u8 0, .int .u8 0, .int .u8 0, .int .u8 0, .int .i64 0, .int .i64 0, .int .i64 0, .int .i64 0] 25)) g 81 X from (Below.heap_alloc v6 _ g hglc6).trans HGc6.out)
        have HHz := hide (show EndAt (v6.alloc (.cells #[.int .i64 0, .int .u8 0, .int .u8 0, .int .u8 0, .int .u8 0, .int .u8 0, .int .u8 0, .int .i64 0, .int .i64 0, .int .i64 0, .int .i64 0] 25)) h 81 Y from (Below.heap_alloc v6 _ h hhlc6).trans HHc6.out)
        have Kpz := hide (show (v6.alloc (.cells #[.int .i64 0, .int .u8 0, .int .u8 0, .int .u8 0, .int .u8 0, .int .u8 0, .int .u8 0, .int .i64 0, .int .i64 0, .int .i64 0, .int .i64 0] 25)).heap[p]? = some (.cells #[.int .i64 U8.sp, .int .u8 U8.m0, .int .u8 U8.m1, .int .u8 U8.m2, .int .u8 U8.m3, .int .u8 U8.m4, .int .u8 U8.m5, .int .i64 U8.key, .int .i64 U8.pp, .int .i64 U8.port, .int .i64 U8.st] 25 (0, 0)) from (Below.heap_alloc v6 _ p (by omega)).trans Kpc6.out)
        have Kqz := hide (show (v6.alloc (.cells #[.int .i64 0, .int .u8 0, .int .u8 0, .int .u8 0, .int .u8 0, .int .u8 0, .int .u8 0, .int .i64 0, .int .i64 0, .int .i64 0, .int .i64 0] 25)).heap[q]? = some (.cells #[.int .i64 V8.sp, .int .u8 V8.m0, .int .u8 V8.m1, .int .u8 V8.m2, .int .u8 V8.m3, .int .u8 V8.m4, .int .u8 V8.m5, .int .i64 V8.key, .int .i64 V8.pp, .int .i64 V8.port, .int .i64 V8.st] 25 (0, 0)) from (Below.heap_alloc v6 _ q (by omega)).trans Kqc6.out)
        have Krz := hide (show (v6.alloc (.cells #[.int .i64 0, .int .u8 0, .int .u8 0, .int .u8 0, .int .u8 0, .int .u8 0, .int .u8 0, .int .i64 0, .int .i64 0, .int .i64 0, .int .i64 0] 25)).heap[r]? = some (.cells #[.int .i64 V.sp, .int .u8 V.m0, .int .u8 V.m1, .int .u8 V.m2, .int .u8 V.m3, .int .u8 V.m4, .int .u8 V.m5, .int .i64 V.key, .int .i64 V.pp, .int .i64 V.port, .int .i64 V.st] 25 (0, 0)) from (Below.heap_alloc v6 _ r (by omega)).trans Krc6.out)
        go_upto_region 27 with (refine wpList_store_part rfl rfl v6.heap.size 0 #[.int .i64 U.sp, .int .u8 U.m0, .int .u8 U.m1, .int .u8 U.m2, .int .u8 U.m3, .int .u8 U.m4, .int .u8 U.m5, .int .i64 U.key, .int .i64 U.pp, .int .i64 U.port, .int .i64 U.st] rfl rfl 25 HZ.out (by kernel_rfl) (by simp) (inf_one U) #[.int .i64 U.sp, .int .u8 U.m0, .int .u8 U.m1, .int .u8 U.m2, .int .u8 U.m3, .int .u8 U.m4, .int .u8 U.m5, .int .i64 U.key, .int .i64 U.pp, .int .i64 U.port, .int .i64 U.st] rfl ?_; intro x6 hfx hbx; have Ksd6 := hide hbx; have HFx := hide hfx; clear hfx hbx)
        try simp only [Act.put]
        have HGd6 := hide (HGz.out.frm HFx.out (by omega)); have HHd6 := hide (HHz.out.frm HFx.out (by omega))
        have Kpd6 := hide (HFx.out.keep Kpz.out (by omega))
        have Kqd6 := hide (HFx.out.keep Kqz.out (by omega))
        have Krd6 := hide (HFx.out.keep Krz.out (by omega))
        have HWd6 := hide ((HWc6.out.alloc HWc6.out.size (.cells #[.int .i64 0, .int .u8 0, .int .u8 0, .int .u8 0, .int .u8 0, .int .u8 0, .int .u8 0, .int .i64 0, .int .i64 0, .int .i64 0, .int .i64 0] 25)).trans (HFx.out.below (by have := HWc6.out.size; omega) (by have := HWc6.out.size; simp; omega)))
        obtain ⟨s, hs⟩ : ∃ s, s = v6.heap.size := ⟨_, rfl⟩
        have hsd6 : s < x6.heap.size := by have := HFx.out.size; simp at this; omega
        have hlos : g < s ∧ h < s ∧ p < s ∧ q < s ∧ r < s := by omega
        rw [← hs] at Ksd6 ⊢
        clear hs HZ HGz HHz HGc6 HHc6 HWd5 HFx hzc6 hglc6 hhlc6 Kpz Kpc6 Kqz Kqc6 Krz Krc6
        have hgld6 := HGd6.out.lt; have hhld6 := HHd6.out.lt
        have q10 : x6.cell? ⟨r, 10, none⟩ = some (.int .i64 V.st) := cell_of_row x6 _ 10 _ 25 (0, 0) Krd6.out
        have z10 : x6.frozen? ⟨r, 10, none⟩ = false := frozen_of_row x6 r 10 _ 25 Krd6.out
        obtain ⟨x7, hw2⟩ : ∃ u, u = x6.setCell ⟨r, 10, none⟩ (.int .i64 (bits .or .i64 V.st 8)) := ⟨_, rfl⟩
        have HEq := hide hw2
        have hfx : Frm x6 x7 r := by rw [hw2]; exact (Frm.refl x6 r).setCell 10 _
        have Krd7 := hide (show x7.heap[r]? = some (.cells #[.int .i64 V8.sp, .int .u8 V8.m0, .int .u8 V8.m1, .int .u8 V8.m2, .int .u8 V8.m3, .int .u8 V8.m4, .int .u8 V8.m5, .int .i64 V8.key, .int .i64 V8.pp, .int .i64 V8.port, .int .i64 V8.st] 25 (0, 0)) by rw [hw2, heap_setCell_same x6 r 10 _ 25 (.int .i64 (bits .or .i64 V.st 8)) Krd6.out, HEV8.out]; rfl)
        have HGd7 := hide (HGd6.out.frm hfx (by omega)); have HHd7 := hide (HHd6.out.frm hfx (by omega))
        have Kpd7 := hide (hfx.keep Kpd6.out (by omega))
        have Kqd7 := hide (hfx.keep Kqd6.out (by omega))
        have Ksd7 := hide (hfx.keep Ksd6.out (by omega))
        have HWd7 := hide (HWd6.out.trans (hfx.below (by have := HWd6.out.size; omega) HWd6.out.size))
        have hzz := hfx.size
        go_upto_region 28 with fail
        try simp only [Act.put]
        rw [← HEq.out]
        clear q10 z10 hw2 HEq hfx HGd6 HHd6 HWd6 Kpd6 Kqd6 Krd6 Ksd6
        have hgld7 := HGd7.out.lt; have hhld7 := HHd7.out.lt
        have q10 : x7.cell? ⟨s, 10, none⟩ = some (.int .i64 U.st) := cell_of_row x7 _ 10 _ 25 (0, 0) Ksd7.out
        have z10 : x7.frozen? ⟨s, 10, none⟩ = false := frozen_of_row x7 s 10 _ 25 Ksd7.out
        obtain ⟨x8, hw2⟩ : ∃ u, u = x7.setCell ⟨s, 10, none⟩ (.int .i64 (bits .or .i64 U.st 8)) := ⟨_, rfl⟩
        have HEq := hide hw2
        have hfx : Frm x7 x8 s := by rw [hw2]; exact (Frm.refl x7 s).setCell 10 _
        have Ksd8 := hide (show x8.heap[s]? = some (.cells #[.int .i64 U8.sp, .int .u8 U8.m0, .int .u8 U8.m1, .int .u8 U8.m2, .int .u8 U8.m3, .int .u8 U8.m4, .int .u8 U8.m5, .int .i64 U8.key, .int .i64 U8.pp, .int .i64 U8.port, .int .i64 U8.st] 25 (0, 0)) by rw [hw2, heap_setCell_same x7 s 10 _ 25 (.int .i64 (bits .or .i64 U.st 8)) Ksd7.out, HEU8.out]; rfl)
        have HGd8 := hide (HGd7.out.frm hfx (by omega)); have HHd8 := hide (HHd7.out.frm hfx (by omega))
        have Kpd8 := hide (hfx.keep Kpd7.out (by omega))
        have Kqd8 := hide (hfx.keep Kqd7.out (by omega))
        have Krd8 := hide (hfx.keep Krd7.out (by omega))
        have HWd8 := hide (HWd7.out.trans (hfx.below (by have := HWd7.out.size; omega) HWd7.out.size))
        have hzz := hfx.size
        go_upto_region 29 with fail
        try simp only [Act.put]
        rw [← HEq.out]
        clear q10 z10 hw2 HEq hfx HGd7 HHd7 HWd7 Kpd7 Kqd7 Krd7 Ksd7
        have hgld8 := HGd8.out.lt; have hhld8 := HHd8.out.lt
        go_wp2_with (first | refine wpList_load_g (ty := 25) (x := .tmp 19) rfl rfl p 0 rfl 25 #[.int .i64 U8.sp, .int .u8 U8.m0, .int .u8 U8.m1, .int .u8 U8.m2, .int .u8 U8.m3, .int .u8 U8.m4, .int .u8 U8.m5, .int .i64 U8.key, .int .i64 U8.pp, .int .i64 U8.port, .int .i64 U8.st] (0, 0) _ Kpd8.out Try.underlying25 rfl (by kernel_rfl) rfl ?_ | refine wpList_load_g (ty := 25) (x := .tmp 22) rfl rfl s 0 rfl 25 #[.int .i64 U8.sp, .int .u8 U8.m0, .int .u8 U8.m1, .int .u8 U8.m2, .int .u8 U8.m3, .int .u8 U8.m4, .int .u8 U8.m5, .int .i64 U8.key, .int .i64 U8.pp, .int .i64 U8.port, .int .i64 U8.st] (0, 0) _ Ksd8.out Try.underlying25 rfl (by kernel_rfl) rfl ?_ | refine wpList_load_g (ty := 25) (x := .tmp 20) rfl rfl q 0 rfl 25 #[.int .i64 V8.sp, .int .u8 V8.m0, .int .u8 V8.m1, .int .u8 V8.m2, .int .u8 V8.m3, .int .u8 V8.m4, .int .u8 V8.m5, .int .i64 V8.key, .int .i64 V8.pp, .int .i64 V8.port, .int .i64 V8.st] (0, 0) _ Kqd8.out Try.underlying25 rfl (by kernel_rfl) rfl ?_ | refine wpList_load_g (ty := 25) (x := .tmp 21) rfl rfl r 0 rfl 25 #[.int .i64 V8.sp, .int .u8 V8.m0, .int .u8 V8.m1, .int .u8 V8.m2, .int .u8 V8.m3, .int .u8 V8.m4, .int .u8 V8.m5, .int .i64 V8.key, .int .i64 V8.pp, .int .i64 V8.port, .int .i64 V8.st] (0, 0) _ Krd8.out Try.underlying25 rfl (by kernel_rfl) rfl ?_ | (refine wpList_eq25g rfl rfl U8 U8 rfl rfl (eqI_self U8) ?_) | (refine wpList_eq25g rfl rfl V8 V8 rfl rfl (eqI_self V8) ?_))
        go_ret
        exact ⟨by simp, HWd8.out⟩

/-! ### The row -/
set_option maxRecDepth 100000 in
theorem rxMeets_lifted (os : Os) (started : os.Started) (H : Type) (enc : TypeId × Value → H) :
    ReturnsInHanded {} Try.checked os 12 .any (Rows.rxMeetsSpec.pre6 enc Try.prog Try.f12 Rows.rxMeetsRow.domain false) (Rows.rxMeetsSpec.post enc Try.prog Try.f12 false true false false) := by
  refine returnsInHanded_of_change (C := Try.checked) own started (by kernel_rfl) Try.func12
    (ChangeSpec.witness6 (enc := enc) (C := Try.checked) false ⟨#[], #[.agg #[.int .i64 0, .int .u8 0, .int .u8 0, .int .u8 0, .int .u8 0, .int .u8 0, .int .u8 0, .int .i64 0, .int .i64 0, .int .i64 0, .int .i64 0], .agg #[.int .i64 0, .int .u8 0, .int .u8 0, .int .u8 0, .int .u8 0, .int .u8 0, .int .u8 0, .int .i64 0, .int .i64 0, .int .i64 0, .int .i64 0], .agg #[.int .i64 0, .int .i64 0]], []⟩ 8 (by kernel_rfl) (by kernel_rfl) (by kernel_rfl) (by kernel_rfl)) ?_
  intro W base args ds gs before hval0 hW hcnd _
  have hval : ∀ (j : Nat) t v, Try.f12.params[j]? = some t → args[j]? = some v → Value.okWide Try.prog W .any base t v := hval0
  have hW' : DataW.Whole enc Try.prog Try.f12.params.toList Rows.rxMeetsSpec.vars false W args.toList ds gs before := hW
  have hlen : args.toList.length = Try.f12.params.toList.length ∧ ds.length = Try.f12.params.toList.length := by
    obtain ⟨p, q, hA, _⟩ := hW'
    exact trodAll_len _ _ _ _ hA
  rw [Try.params12] at hval hlen
  obtain ⟨p0, p1, p2, rfl⟩ := args3 args hlen.1
  obtain ⟨d0, d1, d2, rfl⟩ := list3 ds hlen.2
  obtain rfl : gs = [] := by
    obtain ⟨p, q, _, hV, _⟩ := hW'
    exact (trodVars_none hV).1
  obtain ⟨a, rfl, ha⟩ := open_inf (hval 0 25 p0 rfl rfl)
  obtain ⟨b, rfl, hb⟩ := open_inf (hval 1 25 p1 rfl rfl)
  obtain ⟨n0, n1, rfl, hn0, hn1⟩ := open_two (hval 2 63 p2 rfl rfl)
  refine (rxMeets_any a b n0 n1 W ha hb hn0 hn1).mono fun e W' ⟨he, hb⟩ => ?_
  subst he
  have hp : ∀ t ∈ Try.f12.params.toList, Try.prog.readableRec t = true ∧ t < Try.prog.types.size := by
    rw [Try.params12]
    intro t ht
    simp at ht
    rcases ht with rfl | rfl
    all_goals first | exact readable25 | exact readable63
  have hpost := law_post (enc := enc) (P := Try.prog) (f := Try.f12) (s := Rows.rxMeetsSpec) (tb := 4) (W' := W') laidOut hW' rfl (by kernel_rfl) Try.underlying4 hp ⟨rfl, rfl, rfl⟩ hb
  exact ⟨_, rfl, hpost⟩

theorem rxMeets_holds : Rows.RxMeetsSaid :=
  OpenClaim.holds_of_wide 12 Try.f12 rfl rfl rfl rfl rfl rfl rfl ⟨rfl, rfl, rfl, rfl, rfl⟩ rfl rfl rfl rfl rfl (by kernel_rfl) Try.func12 (by kernel_rfl)
    (of_decide_eq_true (by kernel_rfl)) (by unfold Func.isWrapper; first | (rw [if_pos (by decide +kernel)]; kernel_rfl) | (rw [if_neg (by decide +kernel)]; exact ⟨rfl, rfl⟩))
    (fun os started H enc _ => rxMeets_lifted os started H enc)
#print axioms rxMeets_holds
end Go.Proofs.Ytooieocfgifpgaa

/-
  One end of a link: Take: the reference's.
-/
import Derived.Test.YtooieocfgifpgaaRxD
import Derived.Deep.DeepCutAuto
namespace Go.Proofs.Ytooieocfgifpgaa
open Go.RowKit Go.WideShapes Go.ChangeShapes
set_option linter.unusedVariables false

set_option maxRecDepth 100000 in
set_option maxHeartbeats 16000000 in
theorem refTake_any (g : Nat) (x : ES) (la lp : Inf) (d now : Int) (w : World) (h : EndAt w g 53 x) : Calls Try.prog 56 #[.pointer (some ⟨g, 0, none⟩), .agg #[.int .i64 la.sp, .int .u8 la.m0, .int .u8 la.m1, .int .u8 la.m2, .int .u8 la.m3, .int .u8 la.m4, .int .u8 la.m5, .int .i64 la.key, .int .i64 la.pp, .int .i64 la.port, .int .i64 la.st, .int .i64 lp.sp, .int .u8 lp.m0, .int .u8 lp.m1, .int .u8 lp.m2, .int .u8 lp.m3, .int .u8 lp.m4, .int .u8 lp.m5, .int .i64 lp.key, .int .i64 lp.pp, .int .i64 lp.port, .int .i64 lp.st, .int .i64 d], .int .i64 now] w (TakePost 53 g x la lp d now w) := by
  have hE : x.takeE la lp d now = if inW 1099511627776 now then (if (x.s == 0) then 7 else if okL la lp d then (if eqM la x.actor && (la.port == x.actor.port) then 5 else 0) else 2) else 1 := rfl
  have hh : x.heard la lp now = { x with p := (if hb la.st 2 && !knows lp x.actor then { la with st := bits .andNot .i64 la.st 8 } else la), s := 3, f := now } := rfl
  have HNo : ∀ (k : Int) (u u' : World) (e : Ending), x.takeE la lp d now = k → k ≠ 0 → EndAt u' g 53 x → Frm u u' g → e = .returned (.tuple #[.bool false, .int .i64 k]) → TakePost 53 g x la lp d now u e u' := fun k u u' e h1 h2 h3 h4 h5 => take_no h1 h2 h3 h4 h5
  have HYes : ∀ (u u' : World) (e : Ending), x.takeE la lp d now = 0 → EndAt u' g 53 (x.heard la lp now) → Frm u u' g → e = .returned (.tuple #[.bool (tellB lp x.actor), .int .i64 0]) → TakePost 53 g x la lp d now u e u' := fun u u' e h1 h2 h3 h4 => take_yes h1 h2 h3 h4
  have HMo := hide (fun u => refMoment_any now u)
  have HAc := hide (fun u => refActor_any g x u)
  have HRt := hide (fun u => refRight_any la lp d u)
  generalize x.actor = me at *
  have HKn := hide (fun u => refKnows_any lp me u)
  have hm := fun u => run_eqM23 u la me
  have h4 := and4' la.st
  have hmE : ∀ m pe, eqM la me = m → (la.port == me.port) = pe → True := fun _ _ _ _ => trivial
  generalize eqM la me = m at hE hm hmE
  generalize hpe : (la.port == me.port) = pe at hE
  generalize okL la lp d = OK at hE HRt
  generalize knows lp me = K at hh HKn
  generalize hb la.st 2 = mb at hh h4
  generalize hs0 : (x.s == 0) = S0 at hE
  generalize inW 1099511627776 now = MM at hE HMo
  clear hmE
  have HNo' := hide HNo; have HYes' := hide HYes; have HH := hide hh
  clear HNo HYes hh
  have hgl := h.lt
  obtain ⟨n, hn⟩ : ∃ n, n = w.heap.size := ⟨_, rfl⟩
  have hgn : g < n := by omega
  have HG0 := hide (show EndAt (w.alloc (.cells #[.int .i64 la.sp, .int .u8 la.m0, .int .u8 la.m1, .int .u8 la.m2, .int .u8 la.m3, .int .u8 la.m4, .int .u8 la.m5, .int .i64 la.key, .int .i64 la.pp, .int .i64 la.port, .int .i64 la.st, .int .i64 lp.sp, .int .u8 lp.m0, .int .u8 lp.m1, .int .u8 lp.m2, .int .u8 lp.m3, .int .u8 lp.m4, .int .u8 lp.m5, .int .i64 lp.key, .int .i64 lp.pp, .int .i64 lp.port, .int .i64 lp.st, .int .i64 d] 27)) g 53 x from (Below.heap_alloc w _ g hgl).trans h)
  have HN0 := hide (show (w.alloc (.cells #[.int .i64 la.sp, .int .u8 la.m0, .int .u8 la.m1, .int .u8 la.m2, .int .u8 la.m3, .int .u8 la.m4, .int .u8 la.m5, .int .i64 la.key, .int .i64 la.pp, .int .i64 la.port, .int .i64 la.st, .int .i64 lp.sp, .int .u8 lp.m0, .int .u8 lp.m1, .int .u8 lp.m2, .int .u8 lp.m3, .int .u8 lp.m4, .int .u8 lp.m5, .int .i64 lp.key, .int .i64 lp.pp, .int .i64 lp.port, .int .i64 lp.st, .int .i64 d] 27)).heap[n]? = some (.cells #[.int .i64 la.sp, .int .u8 la.m0, .int .u8 la.m1, .int .u8 la.m2, .int .u8 la.m3, .int .u8 la.m4, .int .u8 la.m5, .int .i64 la.key, .int .i64 la.pp, .int .i64 la.port, .int .i64 la.st, .int .i64 lp.sp, .int .u8 lp.m0, .int .u8 lp.m1, .int .u8 lp.m2, .int .u8 lp.m3, .int .u8 lp.m4, .int .u8 lp.m5, .int .i64 lp.key, .int .i64 lp.pp, .int .i64 lp.port, .int .i64 lp.st, .int .i64 d] 27 (0, 0)) by rw [hn]; exact heap_alloc_new w _)
  have HF0 := hide ((Frm.refl w g).alloc (.cells #[.int .i64 la.sp, .int .u8 la.m0, .int .u8 la.m1, .int .u8 la.m2, .int .u8 la.m3, .int .u8 la.m4, .int .u8 la.m5, .int .i64 la.key, .int .i64 la.pp, .int .i64 la.port, .int .i64 la.st, .int .i64 lp.sp, .int .u8 lp.m0, .int .u8 lp.m1, .int .u8 lp.m2, .int .u8 lp.m3, .int .u8 lp.m4, .int .u8 lp.m5, .int .i64 lp.key, .int .i64 lp.pp, .int .i64 lp.port, .int .i64 lp.st, .int .i64 d] 27))
  have H := hide h
  clear h
  have HE := hide hE
  clear hE
  go_enter Try.func56, Try.ntmps56
  go_wp2_with fail
  rw [← hn]
  have hn1 : n ≤ w.heap.size := by omega
  have hn2 : w.heap.size ≤ n := by omega
  clear hn
  refine (HMo.out _).mono ?_
  rintro e w' ⟨rfl, rfl⟩
  obtain ⟨-, -, c22, -, -, -⟩ := HG0.out.facts
  cases MM
  · go_wp2_with fail
    go_ret2
    exact HNo'.out 1 _ _ _ (by rw [HE.out]; simp) (by decide) HG0.out HF0.out rfl
  cases S0
  rotate_left
  · go_wp2_with fail
    go_ret2
    exact HNo'.out 7 _ _ _ (by rw [HE.out]; simp) (by decide) HG0.out HF0.out rfl
  go_wp2_with (refine wpList_load_part rfl 27 (.tmp 4) rfl n 0 rfl 27 _ #[.int .i64 la.sp, .int .u8 la.m0, .int .u8 la.m1, .int .u8 la.m2, .int .u8 la.m3, .int .u8 la.m4, .int .u8 la.m5, .int .i64 la.key, .int .i64 la.pp, .int .i64 la.port, .int .i64 la.st, .int .i64 lp.sp, .int .u8 lp.m0, .int .u8 lp.m1, .int .u8 lp.m2, .int .u8 lp.m3, .int .u8 lp.m4, .int .u8 lp.m5, .int .i64 lp.key, .int .i64 lp.pp, .int .i64 lp.port, .int .i64 lp.st, .int .i64 d] (0, 0) _ HN0.out Try.underlying27 rfl (by kernel_rfl) rfl ?_)
  refine (HRt.out _).mono ?_
  rintro e w0 ⟨rfl, hb0⟩
  have hs0' : n < w0.heap.size := by have := hb0.size; simp at this; omega
  have HGa := hide (HG0.out.below hb0)
  have HNa := hide ((hb0.block n (by simp; omega)).trans HN0.out)
  have HFa := hide (HF0.out.trans (Frm.of_below g hb0) (.inl rfl))
  clear hb0 HG0 HN0 HF0 c22
  cases OK
  · go_wp2_with fail
    go_ret2
    exact HNo'.out 2 _ _ _ (by rw [HE.out]; simp) (by decide) HGa.out HFa.out rfl
  go_wp2_with fail
  refine (HAc.out _ HGa.out).mono ?_
  rintro e w1 ⟨rfl, hb1⟩
  have hs1 : n < w1.heap.size := by have := hb1.size; omega
  have HG1 := hide (HGa.out.below hb1)
  have HN1 := hide ((hb1.block n hs0').trans HNa.out)
  have HF1 := hide (HFa.out.trans (Frm.of_below g hb1) (.inl rfl))
  have HG1' := hide (show EndAt (w1.alloc (.cells #[.int .i64 0, .int .u8 0, .int .u8 0, .int .u8 0, .int .u8 0, .int .u8 0, .int .u8 0, .int .i64 0, .int .i64 0, .int .i64 0, .int .i64 0] 25)) g 53 x from (Below.heap_alloc w1 _ g (by omega)).trans HG1.out)
  have HN1' := hide (show (w1.alloc (.cells #[.int .i64 0, .int .u8 0, .int .u8 0, .int .u8 0, .int .u8 0, .int .u8 0, .int .u8 0, .int .i64 0, .int .i64 0, .int .i64 0, .int .i64 0] 25)).heap[n]? = some (.cells #[.int .i64 la.sp, .int .u8 la.m0, .int .u8 la.m1, .int .u8 la.m2, .int .u8 la.m3, .int .u8 la.m4, .int .u8 la.m5, .int .i64 la.key, .int .i64 la.pp, .int .i64 la.port, .int .i64 la.st, .int .i64 lp.sp, .int .u8 lp.m0, .int .u8 lp.m1, .int .u8 lp.m2, .int .u8 lp.m3, .int .u8 lp.m4, .int .u8 lp.m5, .int .i64 lp.key, .int .i64 lp.pp, .int .i64 lp.port, .int .i64 lp.st, .int .i64 d] 27 (0, 0)) from (Below.heap_alloc w1 _ n hs1).trans HN1.out)
  have HZ1 := hide (heap_alloc_new w1 (.cells #[.int .i64 0, .int .u8 0, .int .u8 0, .int .u8 0, .int .u8 0, .int .u8 0, .int .u8 0, .int .i64 0, .int .i64 0, .int .i64 0, .int .i64 0] 25))
  obtain ⟨b, hb⟩ : ∃ b, b = w1.heap.size := ⟨_, rfl⟩
  clear hb1
  go_upto_region 10 with (refine wpList_store_part rfl rfl w1.heap.size 0 #[.int .i64 me.sp, .int .u8 me.m0, .int .u8 me.m1, .int .u8 me.m2, .int .u8 me.m3, .int .u8 me.m4, .int .u8 me.m5, .int .i64 me.key, .int .i64 me.pp, .int .i64 me.port, .int .i64 me.st] rfl rfl 25 HZ1.out (by kernel_rfl) (by simp) (inf_one me) #[.int .i64 me.sp, .int .u8 me.m0, .int .u8 me.m1, .int .u8 me.m2, .int .u8 me.m3, .int .u8 me.m4, .int .u8 me.m5, .int .i64 me.key, .int .i64 me.pp, .int .i64 me.port, .int .i64 me.st] rfl ?_; intro w2 hf2 hb2; have HM2 := hide hb2; have HF2 := hide hf2; clear hf2 hb2)
  have HG3 := hide (HG1'.out.frm HF2.out (by omega))
  have HN3 := hide (HF2.out.keep HN1'.out (by omega))
  have HFt3 := hide ((HF1.out.alloc (.cells #[.int .i64 0, .int .u8 0, .int .u8 0, .int .u8 0, .int .u8 0, .int .u8 0, .int .u8 0, .int .i64 0, .int .i64 0, .int .i64 0, .int .i64 0] 25)).trans HF2.out (.inr (by have := HF1.out.size; omega)))
  have hs3 : b < w2.heap.size := by have := HF2.out.size; simp at this; omega
  rw [← hb] at HM2 ⊢
  have hbq1 : b ≤ w1.heap.size := by omega
  have hbq2 : w1.heap.size ≤ b := by omega
  clear hb
  have HM3 := HM2
  have hnb : n < b := by omega
  obtain ⟨w3, hw3⟩ : ∃ w3, w3 = w2 := ⟨_, rfl⟩
  subst hw3
  clear HF2 HG1 HN1 HF1 HG1' HN1' HZ1 HGa HNa HFa HM2
  have q9 : w3.cell? ⟨n, 9, none⟩ = some (.int .i64 la.port) := cell_of_row w3 n 9 _ 27 (0, 0) HN3.out
  have r9 : w3.cell? ⟨b, 9, none⟩ = some (.int .i64 me.port) := cell_of_row w3 b 9 _ 25 (0, 0) HM3.out
  have q0 : w3.cell? ⟨n, 1, none⟩ = some (.int .u8 la.m0) := cell_of_row w3 n 1 _ 27 (0, 0) HN3.out
  have r0 : w3.cell? ⟨b, 1, none⟩ = some (.int .u8 me.m0) := cell_of_row w3 b 1 _ 25 (0, 0) HM3.out
  have q1 : w3.cell? ⟨n, 2, none⟩ = some (.int .u8 la.m1) := cell_of_row w3 n 2 _ 27 (0, 0) HN3.out
  have r1 : w3.cell? ⟨b, 2, none⟩ = some (.int .u8 me.m1) := cell_of_row w3 b 2 _ 25 (0, 0) HM3.out
  have q2 : w3.cell? ⟨n, 3, none⟩ = some (.int .u8 la.m2) := cell_of_row w3 n 3 _ 27 (0, 0) HN3.out
  have r2 : w3.cell? ⟨b, 3, none⟩ = some (.int .u8 me.m2) := cell_of_row w3 b 3 _ 25 (0, 0) HM3.out
  have q3 : w3.cell? ⟨n, 4, none⟩ = some (.int .u8 la.m3) := cell_of_row w3 n 4 _ 27 (0, 0) HN3.out
  have r3 : w3.cell? ⟨b, 4, none⟩ = some (.int .u8 me.m3) := cell_of_row w3 b 4 _ 25 (0, 0) HM3.out
  have q4 : w3.cell? ⟨n, 5, none⟩ = some (.int .u8 la.m4) := cell_of_row w3 n 5 _ 27 (0, 0) HN3.out
  have r4 : w3.cell? ⟨b, 5, none⟩ = some (.int .u8 me.m4) := cell_of_row w3 b 5 _ 25 (0, 0) HM3.out
  have q5 : w3.cell? ⟨n, 6, none⟩ = some (.int .u8 la.m5) := cell_of_row w3 n 6 _ 27 (0, 0) HN3.out
  have r5 : w3.cell? ⟨b, 6, none⟩ = some (.int .u8 me.m5) := cell_of_row w3 b 6 _ 25 (0, 0) HM3.out
  try simp only [Act.put]
  go_cut [43] (fun c wx => c = .bool (m && pe) ∧ w3 = wx)
  case first =>
    cases m
    · go_wp2
      go_meet
      exact ⟨rfl, rfl⟩
    · cases pe
      all_goals
        go_wp2
        go_meet
        exact ⟨rfl, rfl⟩
  case rest =>
    obtain ⟨rfl, rfl⟩ := hcut
    clear q0 r0 q1 r1 q2 r2 q3 r3 q4 r4 q5 r5 q9 r9 hm hpe
    have HE2 := HE.out
    obtain ⟨E5, hE5⟩ : ∃ E5, E5 = (m && pe) := ⟨_, rfl⟩
    rw [← hE5] at HE2 ⊢
    have HE3 := hide HE2
    clear hE5 HE HE2
    cases E5
    rotate_left
    · go_wp2_with fail
      go_ret2
      exact HNo'.out 5 _ _ _ (by rw [HE3.out]; simp) (by decide) HG3.out HFt3.out rfl
    have hTB : tellB lp me = !((lp.sp == me.sp) && (eqM lp me && ((lp.key == me.key) && ((lp.pp == me.pp) && ((lp.port == me.port) && (bits .and .i64 lp.st 15 == bits .and .i64 me.st 15)))))) := rfl
    have t1 := fun u => run_eqM23 u lp me
    generalize eqM lp me = b1 at hTB t1
    generalize f0 : (lp.sp == me.sp) = b0 at hTB
    generalize f2 : (lp.key == me.key) = b2 at hTB
    generalize f3 : (lp.pp == me.pp) = b3 at hTB
    generalize f4 : (lp.port == me.port) = b4 at hTB
    generalize f5 : (bits .and .i64 lp.st 15 == bits .and .i64 me.st 15) = b5 at hTB
    have g0 := ne_of f0; have g2 := ne_of f2; have g3 := ne_of f3; have g4 := ne_of f4; have g5 := ne_of f5
    have HTB := hide hTB
    clear hTB f0 f2 f3 f4 f5
    obtain ⟨c, hc⟩ : ∃ c, c = w3.heap.size := ⟨_, rfl⟩
    have HG3' := hide (show EndAt (w3.alloc (.cells #[.int .i64 0, .int .u8 0, .int .u8 0, .int .u8 0, .int .u8 0, .int .u8 0, .int .u8 0, .int .i64 0, .int .i64 0, .int .i64 0, .int .i64 0] 25)) g 53 x from (Below.heap_alloc w3 _ g (by omega)).trans HG3.out)
    have HN3' := hide (show (w3.alloc (.cells #[.int .i64 0, .int .u8 0, .int .u8 0, .int .u8 0, .int .u8 0, .int .u8 0, .int .u8 0, .int .i64 0, .int .i64 0, .int .i64 0, .int .i64 0] 25)).heap[n]? = some (.cells #[.int .i64 la.sp, .int .u8 la.m0, .int .u8 la.m1, .int .u8 la.m2, .int .u8 la.m3, .int .u8 la.m4, .int .u8 la.m5, .int .i64 la.key, .int .i64 la.pp, .int .i64 la.port, .int .i64 la.st, .int .i64 lp.sp, .int .u8 lp.m0, .int .u8 lp.m1, .int .u8 lp.m2, .int .u8 lp.m3, .int .u8 lp.m4, .int .u8 lp.m5, .int .i64 lp.key, .int .i64 lp.pp, .int .i64 lp.port, .int .i64 lp.st, .int .i64 d] 27 (0, 0)) from (Below.heap_alloc w3 _ n (by omega)).trans HN3.out)
    have HM3' := hide (show (w3.alloc (.cells #[.int .i64 0, .int .u8 0, .int .u8 0, .int .u8 0, .int .u8 0, .int .u8 0, .int .u8 0, .int .i64 0, .int .i64 0, .int .i64 0, .int .i64 0] 25)).heap[b]? = some (.cells #[.int .i64 me.sp, .int .u8 me.m0, .int .u8 me.m1, .int .u8 me.m2, .int .u8 me.m3, .int .u8 me.m4, .int .u8 me.m5, .int .i64 me.key, .int .i64 me.pp, .int .i64 me.port, .int .i64 me.st] 25 (0, 0)) from (Below.heap_alloc w3 _ b hs3).trans HM3.out)
    have HZ3 := hide (heap_alloc_new w3 (.cells #[.int .i64 0, .int .u8 0, .int .u8 0, .int .u8 0, .int .u8 0, .int .u8 0, .int .u8 0, .int .i64 0, .int .i64 0, .int .i64 0, .int .i64 0] 25))
    go_upto_region 14 with (first | (refine wpList_load_part rfl 25 (.tmp 44) rfl n 11 rfl 27 _ #[.int .i64 lp.sp, .int .u8 lp.m0, .int .u8 lp.m1, .int .u8 lp.m2, .int .u8 lp.m3, .int .u8 lp.m4, .int .u8 lp.m5, .int .i64 lp.key, .int .i64 lp.pp, .int .i64 lp.port, .int .i64 lp.st] (0, 0) _ HN3.out Try.underlying25 rfl (by kernel_rfl) rfl ?_) | (refine wpList_load_part rfl 25 (.tmp 44) rfl n 11 rfl 27 _ #[.int .i64 lp.sp, .int .u8 lp.m0, .int .u8 lp.m1, .int .u8 lp.m2, .int .u8 lp.m3, .int .u8 lp.m4, .int .u8 lp.m5, .int .i64 lp.key, .int .i64 lp.pp, .int .i64 lp.port, .int .i64 lp.st] (0, 0) _ HN3'.out Try.underlying25 rfl (by kernel_rfl) rfl ?_) | (refine wpList_store_part rfl rfl w3.heap.size 0 #[.int .i64 lp.sp, .int .u8 lp.m0, .int .u8 lp.m1, .int .u8 lp.m2, .int .u8 lp.m3, .int .u8 lp.m4, .int .u8 lp.m5, .int .i64 lp.key, .int .i64 lp.pp, .int .i64 lp.port, .int .i64 lp.st] rfl rfl 25 HZ3.out (by kernel_rfl) (by simp) (inf_one lp) #[.int .i64 lp.sp, .int .u8 lp.m0, .int .u8 lp.m1, .int .u8 lp.m2, .int .u8 lp.m3, .int .u8 lp.m4, .int .u8 lp.m5, .int .i64 lp.key, .int .i64 lp.pp, .int .i64 lp.port, .int .i64 lp.st] rfl ?_; intro w4 hf4 hb4; have HP4 := hide hb4; have HF4 := hide hf4; clear hf4 hb4))
    have HG4 := hide (HG3'.out.frm HF4.out (by omega))
    have HN4 := hide (HF4.out.keep HN3'.out (by omega))
    have HM4 := hide (HF4.out.keep HM3'.out (by omega))
    have HFt4 := hide ((HFt3.out.alloc (.cells #[.int .i64 0, .int .u8 0, .int .u8 0, .int .u8 0, .int .u8 0, .int .u8 0, .int .u8 0, .int .i64 0, .int .i64 0, .int .i64 0, .int .i64 0] 25)).trans HF4.out (.inr (by have := HFt3.out.size; omega)))
    have hs4 : c < w4.heap.size := by have := HF4.out.size; simp at this; omega
    rw [← hc] at HP4 ⊢
    have hcq1 : c ≤ w3.heap.size := by omega
    have hcq2 : w3.heap.size ≤ c := by omega
    clear hc
    have hbc : b < c := by omega
    clear HF4 HG3' HN3' HM3' HZ3 HG3 HN3 HM3 HFt3
    have q0 : w4.cell? ⟨c, 0, none⟩ = some (.int .i64 lp.sp) := cell_of_row w4 c 0 _ 25 (0, 0) HP4.out
    have r0 : w4.cell? ⟨b, 0, none⟩ = some (.int .i64 me.sp) := cell_of_row w4 b 0 _ 25 (0, 0) HM4.out
    have q1 : w4.cell? ⟨c, 1, none⟩ = some (.int .u8 lp.m0) := cell_of_row w4 c 1 _ 25 (0, 0) HP4.out
    have r1 : w4.cell? ⟨b, 1, none⟩ = some (.int .u8 me.m0) := cell_of_row w4 b 1 _ 25 (0, 0) HM4.out
    have q2 : w4.cell? ⟨c, 2, none⟩ = some (.int .u8 lp.m1) := cell_of_row w4 c 2 _ 25 (0, 0) HP4.out
    have r2 : w4.cell? ⟨b, 2, none⟩ = some (.int .u8 me.m1) := cell_of_row w4 b 2 _ 25 (0, 0) HM4.out
    have q3 : w4.cell? ⟨c, 3, none⟩ = some (.int .u8 lp.m2) := cell_of_row w4 c 3 _ 25 (0, 0) HP4.out
    have r3 : w4.cell? ⟨b, 3, none⟩ = some (.int .u8 me.m2) := cell_of_row w4 b 3 _ 25 (0, 0) HM4.out
    have q4 : w4.cell? ⟨c, 4, none⟩ = some (.int .u8 lp.m3) := cell_of_row w4 c 4 _ 25 (0, 0) HP4.out
    have r4 : w4.cell? ⟨b, 4, none⟩ = some (.int .u8 me.m3) := cell_of_row w4 b 4 _ 25 (0, 0) HM4.out
    have q5 : w4.cell? ⟨c, 5, none⟩ = some (.int .u8 lp.m4) := cell_of_row w4 c 5 _ 25 (0, 0) HP4.out
    have r5 : w4.cell? ⟨b, 5, none⟩ = some (.int .u8 me.m4) := cell_of_row w4 b 5 _ 25 (0, 0) HM4.out
    have q6 : w4.cell? ⟨c, 6, none⟩ = some (.int .u8 lp.m5) := cell_of_row w4 c 6 _ 25 (0, 0) HP4.out
    have r6 : w4.cell? ⟨b, 6, none⟩ = some (.int .u8 me.m5) := cell_of_row w4 b 6 _ 25 (0, 0) HM4.out
    have q7 : w4.cell? ⟨c, 7, none⟩ = some (.int .i64 lp.key) := cell_of_row w4 c 7 _ 25 (0, 0) HP4.out
    have r7 : w4.cell? ⟨b, 7, none⟩ = some (.int .i64 me.key) := cell_of_row w4 b 7 _ 25 (0, 0) HM4.out
    have q8 : w4.cell? ⟨c, 8, none⟩ = some (.int .i64 lp.pp) := cell_of_row w4 c 8 _ 25 (0, 0) HP4.out
    have r8 : w4.cell? ⟨b, 8, none⟩ = some (.int .i64 me.pp) := cell_of_row w4 b 8 _ 25 (0, 0) HM4.out
    have q9 : w4.cell? ⟨c, 9, none⟩ = some (.int .i64 lp.port) := cell_of_row w4 c 9 _ 25 (0, 0) HP4.out
    have r9 : w4.cell? ⟨b, 9, none⟩ = some (.int .i64 me.port) := cell_of_row w4 b 9 _ 25 (0, 0) HM4.out
    have q10 : w4.cell? ⟨c, 10, none⟩ = some (.int .i64 lp.st) := cell_of_row w4 c 10 _ 25 (0, 0) HP4.out
    have r10 : w4.cell? ⟨b, 10, none⟩ = some (.int .i64 me.st) := cell_of_row w4 b 10 _ 25 (0, 0) HM4.out
    try simp only [Act.put]
    go_cut [13] (fun v wx => v = .bool (tellB lp me) ∧ w4 = wx)
    case first =>
      cases b0
      · try simp only [Bool.not_true] at *
        try simp only [Bool.not_false] at *
        go_wp2
        go_meet
        exact ⟨by rw [HTB.out]; simp, rfl⟩
      cases b1
      · try simp only [Bool.not_true] at *
        try simp only [Bool.not_false] at *
        go_wp2
        go_meet
        exact ⟨by rw [HTB.out]; simp, rfl⟩
      cases b2
      · try simp only [Bool.not_true] at *
        try simp only [Bool.not_false] at *
        go_wp2
        go_meet
        exact ⟨by rw [HTB.out]; simp, rfl⟩
      cases b3
      · try simp only [Bool.not_true] at *
        try simp only [Bool.not_false] at *
        go_wp2
        go_meet
        exact ⟨by rw [HTB.out]; simp, rfl⟩
      cases b4
      · try simp only [Bool.not_true] at *
        try simp only [Bool.not_false] at *
        go_wp2
        go_meet
        exact ⟨by rw [HTB.out]; simp, rfl⟩
      cases b5
      all_goals
        try simp only [Bool.not_true] at *
        try simp only [Bool.not_false] at *
        go_wp2
        go_meet
        exact ⟨by rw [HTB.out]; simp, rfl⟩
    case rest =>
      obtain ⟨rfl, rfl⟩ := hcut
      clear q0 r0 q1 r1 q2 r2 q3 r3 q4 r4 q5 r5 q6 r6 q7 r7 q8 r8 q9 r9 q10 r10 g0 g2 g3 g4 g5 t1 HTB
      go_wp2_with (first | (refine wpList_load_part rfl 25 (.tmp 12) rfl c 0 rfl 25 _ #[.int .i64 lp.sp, .int .u8 lp.m0, .int .u8 lp.m1, .int .u8 lp.m2, .int .u8 lp.m3, .int .u8 lp.m4, .int .u8 lp.m5, .int .i64 lp.key, .int .i64 lp.pp, .int .i64 lp.port, .int .i64 lp.st] (0, 0) _ HP4.out Try.underlying25 rfl (by kernel_rfl) rfl ?_) | (refine wpList_load_part rfl 25 (.tmp 10) rfl b 0 rfl 25 _ #[.int .i64 me.sp, .int .u8 me.m0, .int .u8 me.m1, .int .u8 me.m2, .int .u8 me.m3, .int .u8 me.m4, .int .u8 me.m5, .int .i64 me.key, .int .i64 me.pp, .int .i64 me.port, .int .i64 me.st] (0, 0) _ HM4.out Try.underlying25 rfl (by kernel_rfl) rfl ?_))
      refine (HKn.out w4).mono ?_
      rintro e w5 ⟨rfl, hb5⟩
      have HG5 := hide (show w5.heap[g]? = some (.cells (endCells x) 53 (0, 0)) from HG4.out.below hb5)
      have HN5 := hide ((hb5.block n (by omega)).trans HN4.out)
      have HFt5 := hide (HFt4.out.trans (Frm.of_below g hb5) (.inl rfl))
      clear hb5 HG4 HN4 HM4 HFt4 HP4
      have HH2 := HH.out
      have HH3 := hide HH2
      clear HH2 HH
      have hcase : (K = true ∧ (mb && !K) = false) ∨ (K = false ∧ mb = false) ∨ (K = false ∧ mb = true) := by cases K <;> cases mb <;> simp
      rcases hcase with ⟨rfl, hnb'⟩ | ⟨rfl, rfl⟩ | ⟨rfl, rfl⟩
      · simp only [Bool.not_true, Bool.and_false] at HH3
        clear hnb'
        go_wp2_with (first | (refine wpList_load_part rfl 25 (.tmp 94) rfl n 0 rfl 27 _ #[.int .i64 la.sp, .int .u8 la.m0, .int .u8 la.m1, .int .u8 la.m2, .int .u8 la.m3, .int .u8 la.m4, .int .u8 la.m5, .int .i64 la.key, .int .i64 la.pp, .int .i64 la.port, .int .i64 la.st] (0, 0) _ HN5.out Try.underlying25 rfl (by kernel_rfl) rfl ?_) | (refine wpList_store_part rfl rfl g 11 #[.int .i64 la.sp, .int .u8 la.m0, .int .u8 la.m1, .int .u8 la.m2, .int .u8 la.m3, .int .u8 la.m4, .int .u8 la.m5, .int .i64 la.key, .int .i64 la.pp, .int .i64 la.port, .int .i64 la.st] rfl rfl 53 HG5.out (by kernel_rfl) (by simp [endCells]) (inf_one la) (endCells { x with p := la }) rfl ?_; intro w6 hf6 hb6; have HG6 := hide hb6; have HF6 := hide hf6; clear hf6 hb6; have HG6e := hide (show EndAt w6 g 53 { x with p := la } from HG6.out); have u10 := cell_of_row w6 n 10 _ 27 (0, 0) (HF6.out.keep HN5.out (by omega)); simp at u10; have c21 := HG6e.out.facts.c21; have c22 := HG6e.out.facts.c22; have c24 := HG6e.out.facts.c24; have z21 := HG6e.out.facts.z 21; have z22 := HG6e.out.facts.z 22; have z24 := HG6e.out.facts.z 24; simp only at c21 c22 c24))
        go_ret2
        exact HYes'.out _ _ _ (by rw [HE3.out]; simp) (by rw [HH3.out]; exact (HG6e.out.set 22 _ { x with p := la, s := 3 } rfl).set 24 _ { x with p := la, s := 3, f := now } rfl) (((HFt5.out.trans HF6.out (.inl rfl)).setCell 22 _).setCell 24 _) rfl
      · simp only [Bool.not_false, Bool.and_true] at HH3
        go_wp2_with (first | (refine wpList_load_part rfl 25 (.tmp 94) rfl n 0 rfl 27 _ #[.int .i64 la.sp, .int .u8 la.m0, .int .u8 la.m1, .int .u8 la.m2, .int .u8 la.m3, .int .u8 la.m4, .int .u8 la.m5, .int .i64 la.key, .int .i64 la.pp, .int .i64 la.port, .int .i64 la.st] (0, 0) _ HN5.out Try.underlying25 rfl (by kernel_rfl) rfl ?_) | (refine wpList_store_part rfl rfl g 11 #[.int .i64 la.sp, .int .u8 la.m0, .int .u8 la.m1, .int .u8 la.m2, .int .u8 la.m3, .int .u8 la.m4, .int .u8 la.m5, .int .i64 la.key, .int .i64 la.pp, .int .i64 la.port, .int .i64 la.st] rfl rfl 53 HG5.out (by kernel_rfl) (by simp [endCells]) (inf_one la) (endCells { x with p := la }) rfl ?_; intro w6 hf6 hb6; have HG6 := hide hb6; have HF6 := hide hf6; clear hf6 hb6; have HG6e := hide (show EndAt w6 g 53 { x with p := la } from HG6.out); have u10 := cell_of_row w6 n 10 _ 27 (0, 0) (HF6.out.keep HN5.out (by omega)); simp at u10; have c21 := HG6e.out.facts.c21; have c22 := HG6e.out.facts.c22; have c24 := HG6e.out.facts.c24; have z21 := HG6e.out.facts.z 21; have z22 := HG6e.out.facts.z 22; have z24 := HG6e.out.facts.z 24; simp only at c21 c22 c24))
        go_ret2
        exact HYes'.out _ _ _ (by rw [HE3.out]; simp) (by rw [HH3.out]; exact (HG6e.out.set 22 _ { x with p := la, s := 3 } rfl).set 24 _ { x with p := la, s := 3, f := now } rfl) (((HFt5.out.trans HF6.out (.inl rfl)).setCell 22 _).setCell 24 _) rfl
      · simp only [Bool.not_false, Bool.and_true] at HH3
        go_wp2_with (first | (refine wpList_load_part rfl 25 (.tmp 94) rfl n 0 rfl 27 _ #[.int .i64 la.sp, .int .u8 la.m0, .int .u8 la.m1, .int .u8 la.m2, .int .u8 la.m3, .int .u8 la.m4, .int .u8 la.m5, .int .i64 la.key, .int .i64 la.pp, .int .i64 la.port, .int .i64 la.st] (0, 0) _ HN5.out Try.underlying25 rfl (by kernel_rfl) rfl ?_) | (refine wpList_store_part rfl rfl g 11 #[.int .i64 la.sp, .int .u8 la.m0, .int .u8 la.m1, .int .u8 la.m2, .int .u8 la.m3, .int .u8 la.m4, .int .u8 la.m5, .int .i64 la.key, .int .i64 la.pp, .int .i64 la.port, .int .i64 la.st] rfl rfl 53 HG5.out (by kernel_rfl) (by simp [endCells]) (inf_one la) (endCells { x with p := la }) rfl ?_; intro w6 hf6 hb6; have HG6 := hide hb6; have HF6 := hide hf6; clear hf6 hb6; have HG6e := hide (show EndAt w6 g 53 { x with p := la } from HG6.out); have u10 := cell_of_row w6 n 10 _ 27 (0, 0) (HF6.out.keep HN5.out (by omega)); simp at u10; have c21 := HG6e.out.facts.c21; have c22 := HG6e.out.facts.c22; have c24 := HG6e.out.facts.c24; have z21 := HG6e.out.facts.z 21; have z22 := HG6e.out.facts.z 22; have z24 := HG6e.out.facts.z 24; simp only at c21 c22 c24))
        go_ret2
        exact HYes'.out _ _ _ (by rw [HE3.out]; simp) (by rw [HH3.out]; exact ((HG6e.out.set 21 _ { x with p := { la with st := bits .andNot .i64 la.st 8 } } rfl).set 22 _ { x with p := { la with st := bits .andNot .i64 la.st 8 }, s := 3 } rfl).set 24 _ { x with p := { la with st := bits .andNot .i64 la.st 8 }, s := 3, f := now } rfl) ((((HFt5.out.trans HF6.out (.inl rfl)).setCell 21 _).setCell 22 _).setCell 24 _) rfl
end Go.Proofs.Ytooieocfgifpgaa

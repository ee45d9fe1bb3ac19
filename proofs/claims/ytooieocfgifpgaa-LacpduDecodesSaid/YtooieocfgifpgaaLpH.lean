/-
  The reference's bytes of one: Encode. And the laws' own first step.
-/
import Derived.Test.YtooieocfgifpgaaLpG
namespace Go.Proofs.Ytooieocfgifpgaa
open Go.RowKit Go.WideShapes Go.ChangeShapes
set_option linter.unusedVariables false

theorem OwnB.below {w w' : World} {base g k c : Nat} {ys : List UInt8} (h : OwnB w base g k c ys) (hb : Below w.heap.size w w') : OwnB w' base g k c ys := by
  obtain ⟨h1, h2⟩ := h
  refine ⟨h1, ?_⟩
  rcases h2 with h2 | ⟨g', c', cur, he, hg, hh, r⟩
  · exact .inl h2
  · exact .inr ⟨g', c', cur, he, hg, (hb.block g' (Array.getElem?_eq_some_iff.1 hh).1).trans hh, r⟩
theorem OwnB.news {w : World} {base g k c : Nat} {ys : List UInt8} (h : OwnB w base g k c ys) : ∀ j u, (bcells ys)[j]? = some u → w.cell? ((⟨g, 0, none⟩ : Addr).add j) = some u := fun j u hu => World.ownsRow.cells h (g := g) rfl j u hu

set_option maxRecDepth 100000 in
set_option maxHeartbeats 4000000 in
theorem refEncode_any (a p : Inf) (d : Int) (w : World) (ha : a.wf) (hp : p.wf) : Calls Try.prog 16 #[.agg #[.int .i64 a.sp, .int .u8 a.m0, .int .u8 a.m1, .int .u8 a.m2, .int .u8 a.m3, .int .u8 a.m4, .int .u8 a.m5, .int .i64 a.key, .int .i64 a.pp, .int .i64 a.port, .int .i64 a.st, .int .i64 p.sp, .int .u8 p.m0, .int .u8 p.m1, .int .u8 p.m2, .int .u8 p.m3, .int .u8 p.m4, .int .u8 p.m5, .int .i64 p.key, .int .i64 p.pp, .int .i64 p.port, .int .i64 p.st, .int .i64 d]] w (EncPost a p d w) := by
  have HB0 := hide (heap_alloc_new w (.cells #[.int .i64 a.sp, .int .u8 a.m0, .int .u8 a.m1, .int .u8 a.m2, .int .u8 a.m3, .int .u8 a.m4, .int .u8 a.m5, .int .i64 a.key, .int .i64 a.pp, .int .i64 a.port, .int .i64 a.st, .int .i64 p.sp, .int .u8 p.m0, .int .u8 p.m1, .int .u8 p.m2, .int .u8 p.m3, .int .u8 p.m4, .int .u8 p.m5, .int .i64 p.key, .int .i64 p.pp, .int .i64 p.port, .int .i64 p.st, .int .i64 d] 27))
  cases hok : okL a p d
  · have HOK := hide hok
    clear hok
    go_enter Try.func16, Try.ntmps16
    go_wp2_with (refine wpList_load_part rfl 27 (.tmp 1) rfl w.heap.size 0 rfl 27 _ #[.int .i64 a.sp, .int .u8 a.m0, .int .u8 a.m1, .int .u8 a.m2, .int .u8 a.m3, .int .u8 a.m4, .int .u8 a.m5, .int .i64 a.key, .int .i64 a.pp, .int .i64 a.port, .int .i64 a.st, .int .i64 p.sp, .int .u8 p.m0, .int .u8 p.m1, .int .u8 p.m2, .int .u8 p.m3, .int .u8 p.m4, .int .u8 p.m5, .int .i64 p.key, .int .i64 p.pp, .int .i64 p.port, .int .i64 p.st, .int .i64 d] (0, 0) _ HB0.out Try.underlying27 rfl (by kernel_rfl) rfl ?_)
    refine (refRight_any a p d _).mono ?_
    rintro e w1 ⟨rfl, hb1⟩
    rw [HOK.out]
    have HB1 := hide (((Below.refl w.heap.size w).alloc (Nat.le_refl _) (.cells #[.int .i64 a.sp, .int .u8 a.m0, .int .u8 a.m1, .int .u8 a.m2, .int .u8 a.m3, .int .u8 a.m4, .int .u8 a.m5, .int .i64 a.key, .int .i64 a.pp, .int .i64 a.port, .int .i64 a.st, .int .i64 p.sp, .int .u8 p.m0, .int .u8 p.m1, .int .u8 p.m2, .int .u8 p.m3, .int .u8 p.m4, .int .u8 p.m5, .int .i64 p.key, .int .i64 p.pp, .int .i64 p.port, .int .i64 p.st, .int .i64 d] 27)).trans (hb1.mono (by simp)))
    clear hb1
    go_wp2_with fail
    go_ret2
    exact .inr ⟨HOK.out, rfl, HB1.out⟩
  obtain ⟨fa, fp, fd⟩ := okL_fine hok
  have HOK := hide hok; have HA := hide ha; have HP := hide hp; have HFA := hide fa; have HFP := hide fp; have HFD := hide fd
  clear hok ha hp fa fp fd
  go_enter Try.func16, Try.ntmps16
  go_wp2_with (refine wpList_load_part rfl 27 (.tmp 1) rfl w.heap.size 0 rfl 27 _ #[.int .i64 a.sp, .int .u8 a.m0, .int .u8 a.m1, .int .u8 a.m2, .int .u8 a.m3, .int .u8 a.m4, .int .u8 a.m5, .int .i64 a.key, .int .i64 a.pp, .int .i64 a.port, .int .i64 a.st, .int .i64 p.sp, .int .u8 p.m0, .int .u8 p.m1, .int .u8 p.m2, .int .u8 p.m3, .int .u8 p.m4, .int .u8 p.m5, .int .i64 p.key, .int .i64 p.pp, .int .i64 p.port, .int .i64 p.st, .int .i64 d] (0, 0) _ HB0.out Try.underlying27 rfl (by kernel_rfl) rfl ?_)
  refine (refRight_any a p d _).mono ?_
  rintro e w1 ⟨rfl, hb1⟩
  rw [HOK.out]
  have HB1 := hide (((Below.refl w.heap.size w).alloc (Nat.le_refl _) (.cells #[.int .i64 a.sp, .int .u8 a.m0, .int .u8 a.m1, .int .u8 a.m2, .int .u8 a.m3, .int .u8 a.m4, .int .u8 a.m5, .int .i64 a.key, .int .i64 a.pp, .int .i64 a.port, .int .i64 a.st, .int .i64 p.sp, .int .u8 p.m0, .int .u8 p.m1, .int .u8 p.m2, .int .u8 p.m3, .int .u8 p.m4, .int .u8 p.m5, .int .i64 p.key, .int .i64 p.pp, .int .i64 p.port, .int .i64 p.st, .int .i64 d] 27)).trans (hb1.mono (by simp)))
  have hz1 := hb1.size
  simp at hz1
  have hbk : w1.heap[w.heap.size]? = some (.cells #[.int .i64 a.sp, .int .u8 a.m0, .int .u8 a.m1, .int .u8 a.m2, .int .u8 a.m3, .int .u8 a.m4, .int .u8 a.m5, .int .i64 a.key, .int .i64 a.pp, .int .i64 a.port, .int .i64 a.st, .int .i64 p.sp, .int .u8 p.m0, .int .u8 p.m1, .int .u8 p.m2, .int .u8 p.m3, .int .u8 p.m4, .int .u8 p.m5, .int .i64 p.key, .int .i64 p.pp, .int .i64 p.port, .int .i64 p.st, .int .i64 d] 27 (0, 0)) := (hb1.block w.heap.size (by simp)).trans HB0.out
  have HKr := hide (show (w1.alloc (.cells #[.int .u8 1, .int .u8 1, .int .u8 1, .int .u8 20] 5)).heap[w.heap.size]? = some (.cells #[.int .i64 a.sp, .int .u8 a.m0, .int .u8 a.m1, .int .u8 a.m2, .int .u8 a.m3, .int .u8 a.m4, .int .u8 a.m5, .int .i64 a.key, .int .i64 a.pp, .int .i64 a.port, .int .i64 a.st, .int .i64 p.sp, .int .u8 p.m0, .int .u8 p.m1, .int .u8 p.m2, .int .u8 p.m3, .int .u8 p.m4, .int .u8 p.m5, .int .i64 p.key, .int .i64 p.pp, .int .i64 p.port, .int .i64 p.st, .int .i64 d] 27 (0, 0)) from (Below.heap_alloc w1 _ _ (by omega)).trans hbk)
  obtain ⟨w2, hw2⟩ : ∃ w2, w2 = w1.alloc (.cells #[.int .u8 1, .int .u8 1, .int .u8 1, .int .u8 20] 5) := ⟨_, rfl⟩
  have HK2 := hide (show w2.heap[w.heap.size]? = some (.cells #[.int .i64 a.sp, .int .u8 a.m0, .int .u8 a.m1, .int .u8 a.m2, .int .u8 a.m3, .int .u8 a.m4, .int .u8 a.m5, .int .i64 a.key, .int .i64 a.pp, .int .i64 a.port, .int .i64 a.st, .int .i64 p.sp, .int .u8 p.m0, .int .u8 p.m1, .int .u8 p.m2, .int .u8 p.m3, .int .u8 p.m4, .int .u8 p.m5, .int .i64 p.key, .int .i64 p.pp, .int .i64 p.port, .int .i64 p.st, .int .i64 d] 27 (0, 0)) by rw [hw2]; exact HKr.out)
  have HO2 := hide (show OwnB w2 w1.heap.size w1.heap.size 4 4 [1, 1, 1, 20] by rw [hw2]; exact own_laid (w := w1) (base := w1.heap.size) (n := 4) (cs := #[.int .u8 1, .int .u8 1, .int .u8 1, .int .u8 20]) (ys := [1, 1, 1, 20]) (Nat.le_refl _) rfl rfl (by decide))
  have HBe2 := hide (show Below w1.heap.size w1 w2 by rw [hw2]; exact (Below.refl w1.heap.size w1).alloc (Nat.le_refl _) _)
  have hbb : w.heap.size < w1.heap.size := by omega
  have HW2 := hide hw2
  clear hbk hb1 hw2 hz1
  go_wp2_with (refine wpList_load_part rfl 25 (.tmp 12) rfl w.heap.size 0 rfl 27 _ #[.int .i64 a.sp, .int .u8 a.m0, .int .u8 a.m1, .int .u8 a.m2, .int .u8 a.m3, .int .u8 a.m4, .int .u8 a.m5, .int .i64 a.key, .int .i64 a.pp, .int .i64 a.port, .int .i64 a.st] (0, 0) _ HKr.out Try.underlying25 rfl (by kernel_rfl) rfl ?_)
  rw [← HW2.out]
  refine (refBytes_any a w2 HA.out HFA.out).mono ?_
  rintro e wc ⟨gs, cs, rfl, hown', hb'⟩
  have HOs := hide hown'
  have HO2' := hide (HO2.out.below hb')
  have HBe2' := hide (HBe2.out.trans (hb'.mono (by have := HO2.out.lt; omega)))
  have HK2' := hide ((hb'.block w.heap.size (by have := HO2.out.lt; omega)).trans HK2.out)
  clear hown' hb'
  go_wp2_with (at_builtin; go_loud (refine wpList_app rfl (.tmp 11) (.tmp 14) rfl w1.heap.size w1.heap.size 4 4 _ a.bytes rfl HO2'.out ⟨gs, 0, none⟩ 18 cs rfl (bytes_length a) HOs.out.news (by decide) (by omega) (by have := HO2'.out.lt; omega) 22 rfl wc.heap.size rfl ?_))
  intro g3 c3 w3 hown1 hf1 hg1 hlt1
  have HO3 := hide hown1
  have HBe3 := hide (HBe2'.out.trans (hf1.below HO2'.out.lt.1 (by have := HO2'.out.lt; omega)))
  have HK3 := hide (hf1.keep HK2'.out (by have := HO2'.out.lt; omega))
  clear hown1 hf1 hg1 hlt1 HO2 HBe2 HK2 HO2' HBe2' HK2' HOs
  have HO3' := hide (HO3.out.alloc (.cells #[.int .u8 2, .int .u8 20] 5))
  have HFa := hide ((Frm.refl w3 g3).alloc (.cells #[.int .u8 2, .int .u8 20] 5))
  have HN := hide (show bcells [2, 20] = [.int .u8 2, .int .u8 20] from rfl)
  go_wp2_with (at_builtin; go_loud (refine wpList_app rfl (.tmp 16) (.tmp 17) rfl w1.heap.size g3 22 c3 _ [2, 20] rfl HO3'.out ⟨w3.heap.size, 0, none⟩ 2 2 rfl rfl (news_laid (heap_alloc_new w3 _) HN.out) (by decide) (by omega) (by have := HO3.out.lt; simp; omega) 24 rfl (w3.heap.size + 1) (by simp) ?_))
  intro g4 c4 w4 hown1 hf1 hg1 hlt1
  have HO4 := hide hown1
  have hfa := HFa.out.trans hf1 (.inl rfl)
  have HBe4 := hide (HBe3.out.trans (hfa.below HO3.out.lt.1 (by have := HO3.out.lt; omega)))
  have HK4 := hide (hfa.keep HK3.out (by have := HO3.out.lt; omega))
  clear hown1 hf1 hg1 hlt1 hfa HO3 HBe3 HK3 HO3' HFa HN
  go_wp2_with (refine wpList_load_part rfl 25 (.tmp 20) rfl w.heap.size 11 rfl 27 _ #[.int .i64 p.sp, .int .u8 p.m0, .int .u8 p.m1, .int .u8 p.m2, .int .u8 p.m3, .int .u8 p.m4, .int .u8 p.m5, .int .i64 p.key, .int .i64 p.pp, .int .i64 p.port, .int .i64 p.st] (0, 0) _ HK4.out Try.underlying25 rfl (by kernel_rfl) rfl ?_)
  refine (refBytes_any p w4 HP.out HFP.out).mono ?_
  rintro e wc ⟨gs, cs, rfl, hown', hb'⟩
  have HOs := hide hown'
  have HO4' := hide (HO4.out.below hb')
  have HBe4' := hide (HBe4.out.trans (hb'.mono (by have := HO4.out.lt; omega)))
  have HK4' := hide ((hb'.block w.heap.size (by have := HO4.out.lt; omega)).trans HK4.out)
  clear hown' hb'
  go_wp2_with (at_builtin; go_loud (refine wpList_app rfl (.tmp 19) (.tmp 22) rfl w1.heap.size g4 24 c4 _ p.bytes rfl HO4'.out ⟨gs, 0, none⟩ 18 cs rfl (bytes_length p) HOs.out.news (by decide) (by omega) (by have := HO4'.out.lt; omega) 42 rfl wc.heap.size rfl ?_))
  intro g5 c5 w5 hown1 hf1 hg1 hlt1
  have HO5 := hide hown1
  have HBe5 := hide (HBe4'.out.trans (hf1.below HO4'.out.lt.1 (by have := HO4'.out.lt; omega)))
  have HK5 := hide (hf1.keep HK4'.out (by have := HO4'.out.lt; omega))
  clear hown1 hf1 hg1 hlt1 HO4 HBe4 HK4 HO4' HBe4' HK4' HOs
  have HO5' := hide (HO5.out.alloc (.cells #[.int .u8 3, .int .u8 16] 5))
  have HFa := hide ((Frm.refl w5 g5).alloc (.cells #[.int .u8 3, .int .u8 16] 5))
  have HN := hide (show bcells [3, 16] = [.int .u8 3, .int .u8 16] from rfl)
  go_wp2_with (at_builtin; go_loud (refine wpList_app rfl (.tmp 24) (.tmp 25) rfl w1.heap.size g5 42 c5 _ [3, 16] rfl HO5'.out ⟨w5.heap.size, 0, none⟩ 2 2 rfl rfl (news_laid (heap_alloc_new w5 _) HN.out) (by decide) (by omega) (by have := HO5.out.lt; simp; omega) 44 rfl (w5.heap.size + 1) (by simp) ?_))
  intro g6 c6 w6 hown1 hf1 hg1 hlt1
  have HO6 := hide hown1
  have hfa := HFa.out.trans hf1 (.inl rfl)
  have HBe6 := hide (HBe5.out.trans (hfa.below HO5.out.lt.1 (by have := HO5.out.lt; omega)))
  have HK6 := hide (hfa.keep HK5.out (by have := HO5.out.lt; omega))
  clear hown1 hf1 hg1 hlt1 hfa HO5 HBe5 HK5 HO5' HFa HN
  have e22 : w6.cell? ⟨w.heap.size, 22, none⟩ = some (.int .i64 d) := cell_of_row w6 w.heap.size 22 _ 27 (0, 0) HK6.out
  go_wp2_with fail
  refine (refTwo_any d w6 HFD.out).mono ?_
  rintro e wc ⟨rfl, hwc⟩
  have hb' : Below w6.heap.size w6 wc := by rw [← hwc]; exact (Below.refl _ _).alloc (Nat.le_refl _) _
  have HOs := hide (show OwnB wc w6.heap.size w6.heap.size 2 2 (two d) by rw [← hwc]; exact own_laid (Nat.le_refl _) (two_cells d HFD.out) rfl (by decide))
  clear e22 hwc
  have HO6' := hide (HO6.out.below hb')
  have HBe6' := hide (HBe6.out.trans (hb'.mono (by have := HO6.out.lt; omega)))
  have HK6' := hide ((hb'.block w.heap.size (by have := HO6.out.lt; omega)).trans HK6.out)
  clear hb'
  go_wp2_with (at_builtin; go_loud (refine wpList_app rfl (.tmp 27) (.tmp 30) rfl w1.heap.size g6 44 c6 _ (two d) rfl HO6'.out ⟨w6.heap.size, 0, none⟩ 2 2 rfl rfl HOs.out.news (by decide) (by omega) (by have := HO6'.out.lt; omega) 46 rfl wc.heap.size rfl ?_))
  intro g7 c7 w7 hown1 hf1 hg1 hlt1
  have HO7 := hide hown1
  have HBe7 := hide (HBe6'.out.trans (hf1.below HO6'.out.lt.1 (by have := HO6'.out.lt; omega)))
  have HK7 := hide (hf1.keep HK6'.out (by have := HO6'.out.lt; omega))
  clear hown1 hf1 hg1 hlt1 HO6 HBe6 HK6 HO6' HBe6' HK6' HOs
  go_wp2_with (at_builtin; go_loud (refine wpList_zeros rfl (.tmp 32) (.const (.int .i64 64)) rfl w1.heap.size g7 46 c7 _ rfl HO7.out 64 rfl (by decide) (by omega) (by omega) (by have := HO7.out.lt; omega) 110 rfl ?_))
  intro gz cz wz hown1 hf1 hg1 hlt1
  have HOz := hide hown1
  have HBz := hide (HB1.out.trans ((HBe7.out.trans (hf1.below HO7.out.lt.1 (by have := HO7.out.lt; omega))).mono (by omega)))
  clear hown1 hf1 hg1 hlt1
  go_wp2_with fail
  go_ret2
  refine .inl ⟨HOK.out, gz, cz, rfl, ?_, HBz.out⟩
  have h2 := own_base HOz.out (base' := w.heap.size) (by omega)
  simpa [encL] using h2
end Go.Proofs.Ytooieocfgifpgaa

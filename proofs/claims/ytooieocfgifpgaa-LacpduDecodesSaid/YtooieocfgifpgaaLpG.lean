/-
  The reference's bytes of one: two, bytes, Encode.
-/
import Derived.Test.YtooieocfgifpgaaLpF
namespace Go.Proofs.Ytooieocfgifpgaa
open Go.RowKit Go.WideShapes Go.ChangeShapes
set_option linter.unusedVariables false

theorem refTwo_any (n : Int) (w : World) (hn : 0 ≤ n ∧ n ≤ 65535) : Calls Try.prog 41 #[.int .i64 n] w fun e w' => e = .returned (.slice (some ⟨w.heap.size, 0, none⟩) 2 2) ∧ w.alloc (.cells #[.int .u8 (n / 256), .int .u8 (n % 256)] 5) = w' := by
  go_enter Try.func41, Try.ntmps41
  go_wp2
  go_ret
  exact ⟨rfl, rfl⟩

/-- The address's bytes, as far as k. -/
def refHead (x : Inf) (k : Nat) : List UInt8 := two x.sp ++ (macB x).take k
theorem refHead_snoc (x : Inf) (h : x.wf) (k : Nat) (hk : k < 6) : refHead x k ++ [(macB x)[k]'(by simpa [macB] using hk)] = refHead x (k + 1) := by
  unfold refHead
  rw [List.take_succ_eq_append_getElem (by simpa [macB] using hk)]
  simp

set_option maxRecDepth 100000 in
set_option maxHeartbeats 4000000 in
theorem refBytes_any (x : Inf) (w : World) (hx : x.wf) (hf : x.fine) : Calls Try.prog 40 #[.agg #[.int .i64 x.sp, .int .u8 x.m0, .int .u8 x.m1, .int .u8 x.m2, .int .u8 x.m3, .int .u8 x.m4, .int .u8 x.m5, .int .i64 x.key, .int .i64 x.pp, .int .i64 x.port, .int .i64 x.st]] w fun e w' => ∃ g c, e = .returned (.slice (some ⟨g, 0, none⟩) 18 c) ∧ OwnB w' w.heap.size g 18 c x.bytes ∧ Below w.heap.size w w' := by
  obtain ⟨f1, f2, f3, f4, f5⟩ := hf
  have HX := hide hx; clear hx
  obtain ⟨w0, hw0⟩ : ∃ w0, w0 = w.alloc (.cells #[.int .i64 x.sp, .int .u8 x.m0, .int .u8 x.m1, .int .u8 x.m2, .int .u8 x.m3, .int .u8 x.m4, .int .u8 x.m5, .int .i64 x.key, .int .i64 x.pp, .int .i64 x.port, .int .i64 x.st] 25) := ⟨_, rfl⟩
  have HW0 := hide hw0
  have HB0 := hide (show w0.heap[w.heap.size]? = some (.cells #[.int .i64 x.sp, .int .u8 x.m0, .int .u8 x.m1, .int .u8 x.m2, .int .u8 x.m3, .int .u8 x.m4, .int .u8 x.m5, .int .i64 x.key, .int .i64 x.pp, .int .i64 x.port, .int .i64 x.st] 25 (0, 0)) by rw [hw0]; exact heap_alloc_new w (.cells #[.int .i64 x.sp, .int .u8 x.m0, .int .u8 x.m1, .int .u8 x.m2, .int .u8 x.m3, .int .u8 x.m4, .int .u8 x.m5, .int .i64 x.key, .int .i64 x.pp, .int .i64 x.port, .int .i64 x.st] 25))
  have hz0' : w.heap.size < w0.heap.size := by rw [hw0]; simp
  have c0 : w0.cell? ⟨w.heap.size, 0, none⟩ = some (.int .i64 x.sp) := cell_of_row w0 w.heap.size 0 _ 25 (0, 0) HB0.out
  have HBe0 := hide (show Below w.heap.size w w0 by rw [hw0]; exact (Below.refl _ _).alloc (Nat.le_refl _) _)
  clear hw0
  obtain ⟨b, hb0⟩ : ∃ b, b = w.heap.size := ⟨_, rfl⟩
  have HBb := hide hb0
  go_enter Try.func40, Try.ntmps40
  go_wp2_with fail
  rw [← HW0.out]
  rw [← hb0] at HB0 c0 hz0' ⊢
  clear hb0
  refine (refTwo_any x.sp w0 f1).mono ?_
  rintro e w1 ⟨rfl, rfl⟩
  obtain ⟨base, hbase⟩ : ∃ base, base = w0.heap.size := ⟨_, rfl⟩
  obtain ⟨w1, hw1⟩ : ∃ w1, w1 = w0.alloc (.cells #[.int .u8 (x.sp / 256), .int .u8 (x.sp % 256)] 5) := ⟨_, rfl⟩
  have HO1 := hide (show OwnB w1 base base 2 2 (refHead x 0) by
    rw [hw1, hbase]
    exact own_laid (w := w0) (base := w0.heap.size) (n := 2) (cs := #[.int .u8 (x.sp / 256), .int .u8 (x.sp % 256)]) (ys := two x.sp) (Nat.le_refl _) (two_cells x.sp f1) rfl (by decide))
  have HB1 := hide (show w1.heap[b]? = some (.cells #[.int .i64 x.sp, .int .u8 x.m0, .int .u8 x.m1, .int .u8 x.m2, .int .u8 x.m3, .int .u8 x.m4, .int .u8 x.m5, .int .i64 x.key, .int .i64 x.pp, .int .i64 x.port, .int .i64 x.st] 25 (0, 0)) by rw [hw1]; exact (Below.heap_alloc w0 _ b hz0').trans HB0.out)
  have HF1 := hide (show Below base w0 w1 by rw [hw1, hbase]; exact (Below.refl w0.heap.size w0).alloc (Nat.le_refl _) _)
  rw [← hw1, ← hbase]
  have hbb : b < base := by omega
  have HBS := hide hbase
  clear c0 hw1 hbase
  go_wp2_with fail
  go_loopw [3, 4] (fun v i wr => ∃ (k g c : Nat), k ≤ 6 ∧ i = .int .i64 k ∧ v = .slice (some ⟨g, 0, none⟩) (2 + k) c ∧ OwnB wr base g (2 + k) c (refHead x k) ∧ Below base w0 wr ∧ wr.heap[b]? = some (.cells #[.int .i64 x.sp, .int .u8 x.m0, .int .u8 x.m1, .int .u8 x.m2, .int .u8 x.m3, .int .u8 x.m4, .int .u8 x.m5, .int .i64 x.key, .int .i64 x.pp, .int .i64 x.port, .int .i64 x.st] 25 (0, 0)))
    (fun _ i _ => 6 - (intOf i).toNat)
  case atStart => exact ⟨0, base, 2, by omega, rfl, rfl, HO1.out, HF1.out, HB1.out⟩
  case round =>
    obtain ⟨k, g, c, hk, rfl, rfl, hown, hbel, hblk⟩ := hrel
    have HO := hide hown; have HBe := hide hbel; have HBl := hide hblk
    have hlo := hown.lt
    have hsz : base ≤ wr.heap.size := by omega
    clear hown hbel
    by_cases hlt : k < 6
    · have hM := mac_cells x HX.out
      have hkm : k < (macB x).length := by simpa [macB] using hlt
      obtain ⟨y, hy⟩ : ∃ y : UInt8, y = (macB x)[k] := ⟨_, rfl⟩
      have hc : wr.cell? ⟨b, 1 + k, none⟩ = some (.int .u8 (y.toNat : Int)) := by
        have h := mac_laid HX.out hblk k _ (bcells_get _ k hkm)
        rw [← hy] at h
        rw [← h]
        congr 1
        unfold Addr.add
        by_cases h0 : k = 0 <;> simp [h0]
      have HY := hide (show refHead x k ++ [y] = refHead x (k + 1) by rw [hy]; exact refHead_snoc x HX.out k hlt)
      have HN := hide (show bcells [y] = [.int .u8 (y.toNat : Int)] from rfl)
      have HOA := hide (HO.out.alloc (.cells #[.int .u8 (y.toNat : Int)] 5))
      have HFA := hide ((Frm.refl wr g).alloc (.cells #[.int .u8 (y.toNat : Int)] 5))
      have hk0 : (0 : Int) ≤ (k : Int) := by omega
      have hk1 : (k : Int) < 6 := by omega
      have hneb : b ≠ g := by omega
      clear hM hkm hy hblk
      go_wp2_with (at_builtin; go_loud (refine wpList_app rfl (.tmp 12) (.tmp 17) rfl base g (2 + k) c _ [y] rfl HOA.out ⟨wr.heap.size, 0, none⟩ 1 1 rfl rfl (news_laid (heap_alloc_new wr _) HN.out) (by decide) (by omega) (by simp; omega) (2 + k + 1) rfl (wr.heap.size + 1) (by simp) ?_))
      intro g1 c1 w2 hown1 hf1 hg1 hlt1
      have HF2 := hide (HFA.out.trans hf1 (.inl rfl)); have HO2 := hide hown1
      clear hown1 hf1 hc
      go_wp2_with fail
      go_roundw
      case rel => exact ⟨k + 1, g1, c1, by omega, by go_num, rfl, by have h := HO2.out; rw [HY.out] at h; exact h, HBe.out.trans (HF2.out.below hlo.1 hsz), HF2.out.keep HBl.out hneb⟩
      case measure => simp [intOf]; omega
    · obtain rfl : k = 6 := by omega
      have d7 : wr.cell? ⟨b, 7, none⟩ = some (.int .i64 x.key) := cell_of_row wr b 7 _ 25 (0, 0) hblk
      have d8 : wr.cell? ⟨b, 8, none⟩ = some (.int .i64 x.pp) := cell_of_row wr b 8 _ 25 (0, 0) hblk
      have d9 : wr.cell? ⟨b, 9, none⟩ = some (.int .i64 x.port) := cell_of_row wr b 9 _ 25 (0, 0) hblk
      have d10 : wr.cell? ⟨b, 10, none⟩ = some (.int .i64 x.st) := cell_of_row wr b 10 _ 25 (0, 0) hblk
      have hbw : b < wr.heap.size := by omega
      clear hblk d7 d8 d9 d10
      have HOs0 := hide (show OwnB wr base g 8 c (refHead x 6) from HO.out); clear HO
      have e0 : wr.cell? ⟨b, 7, none⟩ = some (.int .i64 x.key) := cell_of_row wr b 7 _ 25 (0, 0) HBl.out
      have HOA0 := hide (HOs0.out.alloc (.cells #[.int .u8 (x.key / 256), .int .u8 (x.key % 256)] 5))
      have HFA0 := hide ((Frm.refl wr g).alloc (.cells #[.int .u8 (x.key / 256), .int .u8 (x.key % 256)] 5))
      have HT0 := hide (two_cells x.key f2)
      go_wp2_with fail
      refine (refTwo_any x.key wr f2).mono ?_
      rintro e w' ⟨rfl, rfl⟩
      clear e0
      go_wp2_with (at_builtin; go_loud (refine wpList_app rfl (.tmp 19) (.tmp 22) rfl base g 8 c _ (two x.key) rfl HOA0.out ⟨wr.heap.size, 0, none⟩ 2 2 rfl rfl (news_laid (heap_alloc_new wr _) HT0.out) (by decide) (by omega) (by simp; omega) 10 rfl (wr.heap.size + 1) (by simp) ?_))
      intro gk0 ck0 wk0 hown1 hf1 hg1 hlt1
      have HFs0 := hide (HFA0.out.trans hf1 (.inl rfl)); have HOs1 := hide hown1
      have hneb0 : b ≠ g := by have := HOs0.out.lt; omega
      have HBe1 := hide (HBe.out.trans (HFs0.out.below HOs0.out.lt.1 (by have := HOs0.out.lt; omega)))
      have HBl1 := hide (HFs0.out.keep HBl.out hneb0)
      have hsz0 : base ≤ wk0.heap.size := by have := HOs1.out.lt; omega
      clear hown1 hf1 hg1 hlt1 HOA0 HFA0 HT0 HFs0 hneb0 HOs0 HBl HBe
      have e1 : wk0.cell? ⟨b, 8, none⟩ = some (.int .i64 x.pp) := cell_of_row wk0 b 8 _ 25 (0, 0) HBl1.out
      have HOA1 := hide (HOs1.out.alloc (.cells #[.int .u8 (x.pp / 256), .int .u8 (x.pp % 256)] 5))
      have HFA1 := hide ((Frm.refl wk0 gk0).alloc (.cells #[.int .u8 (x.pp / 256), .int .u8 (x.pp % 256)] 5))
      have HT1 := hide (two_cells x.pp f3)
      go_wp2_with fail
      refine (refTwo_any x.pp wk0 f3).mono ?_
      rintro e w' ⟨rfl, rfl⟩
      clear e1
      go_wp2_with (at_builtin; go_loud (refine wpList_app rfl (.tmp 24) (.tmp 27) rfl base gk0 10 ck0 _ (two x.pp) rfl HOA1.out ⟨wk0.heap.size, 0, none⟩ 2 2 rfl rfl (news_laid (heap_alloc_new wk0 _) HT1.out) (by decide) (by omega) (by simp; omega) 12 rfl (wk0.heap.size + 1) (by simp) ?_))
      intro gk1 ck1 wk1 hown1 hf1 hg1 hlt1
      have HFs1 := hide (HFA1.out.trans hf1 (.inl rfl)); have HOs2 := hide hown1
      have hneb1 : b ≠ gk0 := by have := HOs1.out.lt; omega
      have HBe2 := hide (HBe1.out.trans (HFs1.out.below HOs1.out.lt.1 (by have := HOs1.out.lt; omega)))
      have HBl2 := hide (HFs1.out.keep HBl1.out hneb1)
      have hsz1 : base ≤ wk1.heap.size := by have := HOs2.out.lt; omega
      clear hown1 hf1 hg1 hlt1 HOA1 HFA1 HT1 HFs1 hneb1 HOs1 HBl1 HBe1
      have e2 : wk1.cell? ⟨b, 9, none⟩ = some (.int .i64 x.port) := cell_of_row wk1 b 9 _ 25 (0, 0) HBl2.out
      have HOA2 := hide (HOs2.out.alloc (.cells #[.int .u8 (x.port / 256), .int .u8 (x.port % 256)] 5))
      have HFA2 := hide ((Frm.refl wk1 gk1).alloc (.cells #[.int .u8 (x.port / 256), .int .u8 (x.port % 256)] 5))
      have HT2 := hide (two_cells x.port f4)
      go_wp2_with fail
      refine (refTwo_any x.port wk1 f4).mono ?_
      rintro e w' ⟨rfl, rfl⟩
      clear e2
      go_wp2_with (at_builtin; go_loud (refine wpList_app rfl (.tmp 29) (.tmp 32) rfl base gk1 12 ck1 _ (two x.port) rfl HOA2.out ⟨wk1.heap.size, 0, none⟩ 2 2 rfl rfl (news_laid (heap_alloc_new wk1 _) HT2.out) (by decide) (by omega) (by simp; omega) 14 rfl (wk1.heap.size + 1) (by simp) ?_))
      intro gk2 ck2 wk2 hown1 hf1 hg1 hlt1
      have HFs2 := hide (HFA2.out.trans hf1 (.inl rfl)); have HOs3 := hide hown1
      have hneb2 : b ≠ gk1 := by have := HOs2.out.lt; omega
      have HBe3 := hide (HBe2.out.trans (HFs2.out.below HOs2.out.lt.1 (by have := HOs2.out.lt; omega)))
      have HBl3 := hide (HFs2.out.keep HBl2.out hneb2)
      have hsz2 : base ≤ wk2.heap.size := by have := HOs3.out.lt; omega
      clear hown1 hf1 hg1 hlt1 HOA2 HFA2 HT2 HFs2 hneb2 HOs2 HBl2 HBe2
      have e3 : wk2.cell? ⟨b, 10, none⟩ = some (.int .i64 x.st) := cell_of_row wk2 b 10 _ 25 (0, 0) HBl3.out
      have HOA := hide (HOs3.out.alloc (.cells #[.int .u8 x.st, .int .u8 0, .int .u8 0, .int .u8 0] 5))
      have HFA := hide ((Frm.refl wk2 gk2).alloc (.cells #[.int .u8 x.st, .int .u8 0, .int .u8 0, .int .u8 0] 5))
      have HN := hide (show bcells [byteOf x.st, 0, 0, 0] = [.int .u8 x.st, .int .u8 0, .int .u8 0, .int .u8 0] by simp only [bcells, List.map_cons, List.map_nil, byteOf_toNat]; rw [Int.emod_eq_of_lt (by omega) (by omega)]; rfl)
      go_wp2_with (at_builtin; go_loud (refine wpList_app rfl (.tmp 34) (.tmp 38) rfl base gk2 14 ck2 _ [byteOf x.st, 0, 0, 0] rfl HOA.out ⟨wk2.heap.size, 0, none⟩ 4 4 rfl rfl (news_laid (heap_alloc_new wk2 _) HN.out) (by decide) (by omega) (by simp; omega) 18 rfl (wk2.heap.size + 1) (by simp) ?_))
      intro gz cz wz hown1 hf1 hg1 hlt1
      have HFs := hide (HFA.out.trans hf1 (.inl rfl)); have HOz := hide hown1
      clear hown1 hf1 hg1 hlt1 e3
      go_wp2_with fail
      go_ret
      have hbw := HBS.out
      have hbB := HBb.out
      have h2 := own_base HOz.out (base' := w.heap.size) (by omega)
      refine ⟨gz, cz, rfl, ?_, (HBe0.out.trans (HBe3.out.mono (by omega))).trans ((HFs.out.below HOs3.out.lt.1 (by have := HOs3.out.lt; omega)).mono (by omega))⟩
      simpa [Inf.bytes, refHead, macB] using h2
end Go.Proofs.Ytooieocfgifpgaa

/-
  The program's bytes of one: Encode.
-/
import Derived.Test.YtooieocfgifpgaaLpE
namespace Go.Proofs.Ytooieocfgifpgaa
open Go.RowKit Go.WideShapes Go.ChangeShapes
set_option linter.unusedVariables false

/-- What Encode hands back. -/
def EncPost (a p : Inf) (d : Int) (w : World) (e : Ending) (w' : World) : Prop :=
  (okL a p d = true ∧ ∃ g c, e = .returned (.tuple #[.slice (some ⟨g, 0, none⟩) 110 c, .int .i64 0]) ∧ OwnB w' w.heap.size g 110 c (encL a p d) ∧ Below w.heap.size w w') ∨
  (okL a p d = false ∧ e = .returned (.tuple #[.slice none 0 0, .int .i64 1]) ∧ Below w.heap.size w w')

theorem own_laid {w : World} {base n : Nat} {cs : Array Value} {ys : List UInt8} (hb : base ≤ w.heap.size) (hc : bcells ys = cs.toList) (hn : ys.length = n) (h63 : n ≤ 1000) : OwnB (w.alloc (.cells cs 5)) base w.heap.size n n ys := by
  have hs : cs.size = n := by
    have := congrArg List.length hc
    rw [bcells_length] at this
    simpa [hn] using this.symm
  refine ⟨by rw [bcells_length]; omega, .inr ⟨w.heap.size, n, cs, rfl, hb, heap_alloc_new _ _, Nat.le_refl _, by unfold maxLen; omega, by omega, ?_⟩⟩
  rw [hc]
  exact List.take_of_length_le (by simp [hs])

theorem putInfo_k (base g k c m : Nat) (ys zs : List UInt8) (kd : UInt8) (kv : Int) (x : Inf) (w : World) (hkv : (kd.toNat : Int) = kv) (hx : x.wf) (hf : x.fine) (hown : OwnB w base g k c ys) (hm : k + 20 = m) (hk : k ≤ 900) (hb : base ≤ w.heap.size) (hz : ys ++ ([kd, 20] ++ x.bytes) = zs) :
    Calls Try.prog 38 #[.slice (some ⟨g, 0, none⟩) k c, .int .u8 kv, .agg #[.int .i64 x.sp, .int .u8 x.m0, .int .u8 x.m1, .int .u8 x.m2, .int .u8 x.m3, .int .u8 x.m4, .int .u8 x.m5, .int .i64 x.key, .int .i64 x.pp, .int .i64 x.port, .int .i64 x.st]] w (Grew base g m zs w) := by
  subst hkv
  exact putInfo_any base g k c m ys zs kd x w hx hf hown hm hk hb hz
theorem own_base {w : World} {base base' g k c : Nat} {ys : List UInt8} (h : OwnB w base g k c ys) (hb : base' ≤ base) : OwnB w base' g k c ys := by
  obtain ⟨h1, h2⟩ := h
  refine ⟨h1, ?_⟩
  rcases h2 with h2 | ⟨g', c', cur, he, hg, r⟩
  · exact .inl h2
  · exact .inr ⟨g', c', cur, he, Nat.le_trans hb hg, r⟩

theorem okL_fine {a p : Inf} {d : Int} (h : okL a p d = true) : a.fine ∧ p.fine ∧ 0 ≤ d ∧ d ≤ 65535 := by
  simp only [okL, Bool.and_eq_true, inW_iff, Inf.ok_iff] at h
  exact ⟨h.1.1, h.1.2, h.2.1, h.2.2⟩

set_option maxRecDepth 100000 in
set_option maxHeartbeats 4000000 in
theorem encode_any (a p : Inf) (d : Int) (w : World) (ha : a.wf) (hp : p.wf) : Calls Try.prog 15 #[.agg #[.int .i64 a.sp, .int .u8 a.m0, .int .u8 a.m1, .int .u8 a.m2, .int .u8 a.m3, .int .u8 a.m4, .int .u8 a.m5, .int .i64 a.key, .int .i64 a.pp, .int .i64 a.port, .int .i64 a.st, .int .i64 p.sp, .int .u8 p.m0, .int .u8 p.m1, .int .u8 p.m2, .int .u8 p.m3, .int .u8 p.m4, .int .u8 p.m5, .int .i64 p.key, .int .i64 p.pp, .int .i64 p.port, .int .i64 p.st, .int .i64 d]] w (EncPost a p d w) := by
  have HB0 := hide (heap_alloc_new w (.cells #[.int .i64 a.sp, .int .u8 a.m0, .int .u8 a.m1, .int .u8 a.m2, .int .u8 a.m3, .int .u8 a.m4, .int .u8 a.m5, .int .i64 a.key, .int .i64 a.pp, .int .i64 a.port, .int .i64 a.st, .int .i64 p.sp, .int .u8 p.m0, .int .u8 p.m1, .int .u8 p.m2, .int .u8 p.m3, .int .u8 p.m4, .int .u8 p.m5, .int .i64 p.key, .int .i64 p.pp, .int .i64 p.port, .int .i64 p.st, .int .i64 d] 27))
  cases hok : okL a p d
  · have HOK := hide hok
    clear hok
    go_enter Try.func15, Try.ntmps15
    go_wp2_with (refine wpList_load_part rfl 27 (.tmp 1) rfl w.heap.size 0 rfl 27 _ #[.int .i64 a.sp, .int .u8 a.m0, .int .u8 a.m1, .int .u8 a.m2, .int .u8 a.m3, .int .u8 a.m4, .int .u8 a.m5, .int .i64 a.key, .int .i64 a.pp, .int .i64 a.port, .int .i64 a.st, .int .i64 p.sp, .int .u8 p.m0, .int .u8 p.m1, .int .u8 p.m2, .int .u8 p.m3, .int .u8 p.m4, .int .u8 p.m5, .int .i64 p.key, .int .i64 p.pp, .int .i64 p.port, .int .i64 p.st, .int .i64 d] (0, 0) _ HB0.out Try.underlying27 rfl (by kernel_rfl) rfl ?_)
    refine (right_any a p d _).mono ?_
    rintro e w1 ⟨rfl, hb1⟩
    rw [HOK.out]
    have HB1 := hide (((Below.refl w.heap.size w).alloc (Nat.le_refl _) (.cells #[.int .i64 a.sp, .int .u8 a.m0, .int .u8 a.m1, .int .u8 a.m2, .int .u8 a.m3, .int .u8 a.m4, .int .u8 a.m5, .int .i64 a.key, .int .i64 a.pp, .int .i64 a.port, .int .i64 a.st, .int .i64 p.sp, .int .u8 p.m0, .int .u8 p.m1, .int .u8 p.m2, .int .u8 p.m3, .int .u8 p.m4, .int .u8 p.m5, .int .i64 p.key, .int .i64 p.pp, .int .i64 p.port, .int .i64 p.st, .int .i64 d] 27)).trans (hb1.mono (by simp)))
    clear hb1
    go_wp2_with fail
    go_ret2
    exact .inr ⟨HOK.out, rfl, HB1.out⟩
  obtain ⟨fa, fp, fd⟩ := okL_fine hok
  have HOK := hide hok; have HA := hide ha; have HP := hide hp; have HFA := hide fa; have HFP := hide fp; have HFD := hide fd
  clear hok ha hp fa fp fd
  go_enter Try.func15, Try.ntmps15
  go_wp2_with (refine wpList_load_part rfl 27 (.tmp 1) rfl w.heap.size 0 rfl 27 _ #[.int .i64 a.sp, .int .u8 a.m0, .int .u8 a.m1, .int .u8 a.m2, .int .u8 a.m3, .int .u8 a.m4, .int .u8 a.m5, .int .i64 a.key, .int .i64 a.pp, .int .i64 a.port, .int .i64 a.st, .int .i64 p.sp, .int .u8 p.m0, .int .u8 p.m1, .int .u8 p.m2, .int .u8 p.m3, .int .u8 p.m4, .int .u8 p.m5, .int .i64 p.key, .int .i64 p.pp, .int .i64 p.port, .int .i64 p.st, .int .i64 d] (0, 0) _ HB0.out Try.underlying27 rfl (by kernel_rfl) rfl ?_)
  refine (right_any a p d _).mono ?_
  rintro e w1 ⟨rfl, hb1⟩
  rw [HOK.out]
  have HB1 := hide (((Below.refl w.heap.size w).alloc (Nat.le_refl _) (.cells #[.int .i64 a.sp, .int .u8 a.m0, .int .u8 a.m1, .int .u8 a.m2, .int .u8 a.m3, .int .u8 a.m4, .int .u8 a.m5, .int .i64 a.key, .int .i64 a.pp, .int .i64 a.port, .int .i64 a.st, .int .i64 p.sp, .int .u8 p.m0, .int .u8 p.m1, .int .u8 p.m2, .int .u8 p.m3, .int .u8 p.m4, .int .u8 p.m5, .int .i64 p.key, .int .i64 p.pp, .int .i64 p.port, .int .i64 p.st, .int .i64 d] 27)).trans (hb1.mono (by simp)))
  have hz1 := hb1.size
  simp at hz1
  have hbk := hb1.block w.heap.size (by simp)
  rw [HB0.out] at hbk
  have HK1 := hide hbk
  have hbk' : (w1.alloc (.cells #[.int .u8 1, .int .u8 1] 5)).heap[w.heap.size]? = _ := (Below.heap_alloc w1 _ _ (by omega)).trans hbk
  have HK1' := hide hbk'
  have HO1 := hide (own_laid (w := w1) (base := w1.heap.size) (n := 2) (cs := #[.int .u8 1, .int .u8 1]) (ys := [1, 1]) (Nat.le_refl _) rfl rfl (by decide))
  clear hbk hbk' hb1
  go_wp2_with (refine wpList_load_part rfl 25 (.tmp 9) rfl w.heap.size 0 rfl 27 _ #[.int .i64 a.sp, .int .u8 a.m0, .int .u8 a.m1, .int .u8 a.m2, .int .u8 a.m3, .int .u8 a.m4, .int .u8 a.m5, .int .i64 a.key, .int .i64 a.pp, .int .i64 a.port, .int .i64 a.st] (0, 0) _ HK1'.out Try.underlying25 rfl (by kernel_rfl) rfl ?_)
  refine (putInfo_k w1.heap.size w1.heap.size 2 2 22 [1, 1] ([1, 1] ++ ([1, 20] ++ a.bytes)) 1 1 a _ (by decide) HA.out HFA.out HO1.out rfl (by decide) (by simp) rfl).mono ?_
  rintro e w2 ⟨g2, d2, rfl, hown2, hf2, hg2, hlt2⟩
  have hz2 := hf2.size
  simp at hz2
  have HB2 := hide (((Below.refl w1.heap.size w1).alloc (Nat.le_refl _) _).trans (hf2.below (base := w1.heap.size) (Nat.le_refl _) (by simp)))
  have hbk : w2.heap[w.heap.size]? = _ := (HB2.out.block w.heap.size (by omega)).trans HK1.out
  have HK2 := hide hbk; have HO2 := hide hown2
  have hg2' : w1.heap.size ≤ g2 := hown2.lt.1
  clear hown2 hf2 hg2
  clear hbk
  go_wp2_with (refine wpList_load_part rfl 25 (.tmp 13) rfl w.heap.size 11 rfl 27 _ #[.int .i64 p.sp, .int .u8 p.m0, .int .u8 p.m1, .int .u8 p.m2, .int .u8 p.m3, .int .u8 p.m4, .int .u8 p.m5, .int .i64 p.key, .int .i64 p.pp, .int .i64 p.port, .int .i64 p.st] (0, 0) _ HK2.out Try.underlying25 rfl (by kernel_rfl) rfl ?_)
  refine (putInfo_k w1.heap.size g2 22 d2 42 _ ([1, 1] ++ ([1, 20] ++ a.bytes) ++ ([2, 20] ++ p.bytes)) 2 2 p w2 (by decide) HP.out HFP.out HO2.out rfl (by decide) (by omega) rfl).mono ?_
  rintro e w3 ⟨g3, d3, rfl, hown3, hf3, hg3, hlt3⟩
  have hz3 := hf3.size
  have HB3 := hide (HB2.out.trans (hf3.below hg2' (by omega)))
  have hbk : w3.heap[w.heap.size]? = _ := (HB3.out.block w.heap.size (by omega)).trans HK1.out
  have HO3 := hide hown3
  have hg3' : w1.heap.size ≤ g3 := hown3.lt.1
  have c22 : w3.cell? ⟨w.heap.size, 22, none⟩ = some (.int .i64 d) := cell_of_row w3 w.heap.size 22 _ 27 (0, 0) hbk
  clear hown3 hf3 hg3 hbk HK2 HO2
  have HN4 := hide (show bcells [3, 16] = [.int .u8 3, .int .u8 16] from rfl)
  go_wp2_with fail
  have hne3 : w.heap.size ≠ g3 := by omega
  generalize hbb : w.heap.size = b at hne3 c22 ⊢
  go_region_held3 (fun w' => w'.cell? ⟨b, 22, none⟩ = some (.int .i64 d))
    (first | go_keep | exact hf4.cell (by assumption) hne3 | exact hf5.cell (by assumption) hne4)
    (first
      | (refine step_app rfl (.tmp 16) (.tmp 17) rfl w1.heap.size g3 42 d3 _ [3, 16] rfl (HO3.out.alloc (.cells #[.int .u8 3, .int .u8 16] 5)).drew ⟨w3.heap.size, 0, none⟩ 2 2 rfl rfl (news_laid (heap_alloc_new w3 _) HN4.out) (by decide) (by omega) (by simp; omega) 44 rfl (w3.heap.size + 1) (by simp) ?_; intro g4 d4 w4 hown4 hf4 hg4 hlt4; have hne4 : b ≠ g4 := by omega)
      | (go_simp; go_at_call 39; refine (put_any w1.heap.size g4 44 d4 46 _ d w4 HFD.out hown4 rfl (by omega) (by have := hf4.size; simp at this; omega)).mono ?_; rintro e w5 ⟨g5, d5, rfl, hown5, hf5, hg5, hlt5⟩))
  subst hbb
  have hz4 := hf4.size
  simp at hz4
  have hz5 := hf5.size
  have HB5 := hide (((HB3.out.alloc (by omega) _).drew.trans (hf4.below hg3' (by simp; omega))).trans (hf5.below (base := w1.heap.size) (by omega) (by omega)))
  have HO5 := hide hown5
  clear hown4 hf4 hg4 hown5 hf5 hg5 c22 HN4 HO3
  go_wp2_with (at_builtin; go_loud (refine wpList_zeros rfl (.tmp 22) (.const (.int .i64 64)) rfl w1.heap.size g5 46 d5 _ rfl HO5.out 64 rfl (by decide) (by omega) (by omega) (by omega) 110 rfl ?_))
  intro g6 d6 w6 hown6 hf6 hg6 hlt6
  have hlo5 := HO5.out.lt
  have HB6 := hide (HB1.out.trans ((HB5.out.trans (hf6.below (base := w1.heap.size) hlo5.1 (by omega))).mono (by omega)))
  have HO6 := hide hown6
  clear hown6 hf6 hg6
  go_wp2_with fail
  go_ret2
  refine .inl ⟨HOK.out, g6, d6, rfl, ?_, HB6.out⟩
  have h2 := own_base HO6.out (base' := w.heap.size) (by omega)
  simpa [encL] using h2
end Go.Proofs.Ytooieocfgifpgaa

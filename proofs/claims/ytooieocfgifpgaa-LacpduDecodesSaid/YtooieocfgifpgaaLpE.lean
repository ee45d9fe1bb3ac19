/-
  The program's bytes of one: putInfo.
-/
import Derived.Test.YtooieocfgifpgaaLpD
namespace Go.Proofs.Ytooieocfgifpgaa
open Go.RowKit Go.WideShapes Go.ChangeShapes
set_option linter.unusedVariables false

def macB (x : Inf) : List UInt8 := [byteOf x.m0, byteOf x.m1, byteOf x.m2, byteOf x.m3, byteOf x.m4, byteOf x.m5]
theorem mac_cells (x : Inf) (h : x.wf) : bcells (macB x) = [.int .u8 x.m0, .int .u8 x.m1, .int .u8 x.m2, .int .u8 x.m3, .int .u8 x.m4, .int .u8 x.m5] := by
  obtain ⟨-, h0, h1, h2, h3, h4, h5, -, -, -, -⟩ := h
  simp only [bcells, macB, List.map_cons, List.map_nil, byteOf_toNat, Int.emod_eq_of_lt h0.1 h0.2, Int.emod_eq_of_lt h1.1 h1.2, Int.emod_eq_of_lt h2.1 h2.2, Int.emod_eq_of_lt h3.1 h3.2, Int.emod_eq_of_lt h4.1 h4.2, Int.emod_eq_of_lt h5.1 h5.2]
/-- The address's bytes out of the info's own block. -/
theorem mac_laid {w : World} {b t : Nat} {fr : Nat × Nat} {x : Inf} (h : x.wf) (hb : w.heap[b]? = some (.cells #[.int .i64 x.sp, .int .u8 x.m0, .int .u8 x.m1, .int .u8 x.m2, .int .u8 x.m3, .int .u8 x.m4, .int .u8 x.m5, .int .i64 x.key, .int .i64 x.pp, .int .i64 x.port, .int .i64 x.st] t fr)) : ∀ j u, (bcells (macB x))[j]? = some u → w.cell? ((⟨b, 1, none⟩ : Addr).add j) = some u := by
  intro j u hu
  rw [mac_cells x h] at hu
  rw [show (⟨b, 1, none⟩ : Addr).add j = ⟨b, 1 + j, none⟩ by unfold Addr.add; by_cases h : j = 0 <;> simp [h], cell_of_row w b (1 + j) _ t fr hb]
  match j, hu with
  | 0, hu => simpa using hu
  | 1, hu => simpa using hu
  | 2, hu => simpa using hu
  | 3, hu => simpa using hu
  | 4, hu => simpa using hu
  | 5, hu => simpa using hu

/-- A row that grows: from w4, where it lay in g4. -/
structure St (w4 w : World) (base g4 g k c : Nat) (ys : List UInt8) : Prop where
  own : OwnB w base g k c ys
  frm : Frm w4 w g4
  loc : g = g4 ∨ w4.heap.size ≤ g
  bs : base ≤ w4.heap.size
theorem St.size {w4 w : World} {base g4 g k c : Nat} {ys : List UInt8} (h : St w4 w base g4 g k c ys) : w4.heap.size ≤ w.heap.size := h.frm.size
theorem St.alloc {w4 w : World} {base g4 g k c : Nat} {ys : List UInt8} (h : St w4 w base g4 g k c ys) (o : Obj) : St w4 (w.alloc o) base g4 g k c ys := ⟨h.own.alloc o, h.frm.alloc o, h.loc, h.bs⟩
theorem St.drew {w4 w : World} {base g4 g k c : Nat} {ys : List UInt8} (h : St w4 w base g4 g k c ys) : St w4 w.drew base g4 g k c ys := ⟨h.own.drew, h.frm.drew, h.loc, h.bs⟩
theorem St.ne {w4 w : World} {base g4 g k c b : Nat} {ys : List UInt8} (h : St w4 w base g4 g k c ys) (hb : b < w4.heap.size) (hne : b ≠ g4) : b ≠ g := by
  have := h.loc
  omega
theorem St.on {w4 w w' : World} {base g4 g g' k k' c c' : Nat} {ys ys' : List UInt8} (h : St w4 w base g4 g k c ys) (hf : Frm w w' g) (ho : OwnB w' base g' k' c' ys') (hg : g' = g ∨ w.heap.size ≤ g') : St w4 w' base g4 g' k' c' ys' :=
  ⟨ho, h.frm.trans hf h.loc, by have := h.size; have := h.loc; omega, h.bs⟩
theorem put_st {w4 w : World} {base g4 g k c : Nat} {ys : List UInt8} (h : St w4 w base g4 g k c ys) (n : Int) (hn : 0 ≤ n ∧ n ≤ 65535) (m : Nat) (hm : k + 2 = m) (hk : k ≤ 1000) :
    Calls Try.prog 39 #[.slice (some ⟨g, 0, none⟩) k c, .int .i64 n] w fun e w' => ∃ g' c', e = .returned (.slice (some ⟨g', 0, none⟩) m c') ∧ St w4 w' base g4 g' m c' (ys ++ two n) ∧ Frm w w' g ∧ (g' = g ∨ w.heap.size ≤ g') :=
  (put_any base g k c m ys n w hn h.own hm hk (Nat.le_trans h.bs h.size)).mono fun e w' ⟨g', c', he, ho, hf, hg, _⟩ => ⟨g', c', he, h.on hf ho hg, hf, hg⟩

set_option maxRecDepth 100000 in
set_option maxHeartbeats 4000000 in
theorem putInfo_any (base g k c m : Nat) (ys zs : List UInt8) (kd : UInt8) (x : Inf) (w : World) (hx : x.wf) (hf : x.fine) (hown : OwnB w base g k c ys) (hm : k + 20 = m) (hk : k ≤ 900) (hb : base ≤ w.heap.size) (hz : ys ++ ([kd, 20] ++ x.bytes) = zs) :
    Calls Try.prog 38 #[.slice (some ⟨g, 0, none⟩) k c, .int .u8 (kd.toNat : Int), .agg #[.int .i64 x.sp, .int .u8 x.m0, .int .u8 x.m1, .int .u8 x.m2, .int .u8 x.m3, .int .u8 x.m4, .int .u8 x.m5, .int .i64 x.key, .int .i64 x.pp, .int .i64 x.port, .int .i64 x.st]] w (Grew base g m zs w) := by
  obtain ⟨f1, f2, f3, f4, f5⟩ := hf
  have HX := hide hx; have HZ := hide hz
  have hlt := hown.lt
  have HF0 := hide ((Frm.refl w g).alloc (.cells #[.int .i64 x.sp, .int .u8 x.m0, .int .u8 x.m1, .int .u8 x.m2, .int .u8 x.m3, .int .u8 x.m4, .int .u8 x.m5, .int .i64 x.key, .int .i64 x.pp, .int .i64 x.port, .int .i64 x.st] 25))
  have HO0 := hide (hown.alloc (.cells #[.int .i64 x.sp, .int .u8 x.m0, .int .u8 x.m1, .int .u8 x.m2, .int .u8 x.m3, .int .u8 x.m4, .int .u8 x.m5, .int .i64 x.key, .int .i64 x.pp, .int .i64 x.port, .int .i64 x.st] 25))
  have HB0 := hide (heap_alloc_new w (.cells #[.int .i64 x.sp, .int .u8 x.m0, .int .u8 x.m1, .int .u8 x.m2, .int .u8 x.m3, .int .u8 x.m4, .int .u8 x.m5, .int .i64 x.key, .int .i64 x.pp, .int .i64 x.port, .int .i64 x.st] 25))
  have hne : w.heap.size ≠ g := by omega
  have HM := hide hm
  clear hx hown hm hz
  obtain ⟨w0, hw0⟩ : ∃ w0, w0 = w.alloc (.cells #[.int .i64 x.sp, .int .u8 x.m0, .int .u8 x.m1, .int .u8 x.m2, .int .u8 x.m3, .int .u8 x.m4, .int .u8 x.m5, .int .i64 x.key, .int .i64 x.pp, .int .i64 x.port, .int .i64 x.st] 25) := ⟨_, rfl⟩
  have HW0 := hide hw0
  rw [← hw0] at HF0 HO0 HB0
  have hz0 : w.heap.size < w0.heap.size := by rw [hw0]; simp
  have c0 : w0.cell? ⟨w.heap.size, 0, none⟩ = some (.int .i64 x.sp) := cell_of_row w0 w.heap.size 0 _ 25 (0, 0) HB0.out
  clear hw0
  obtain ⟨b, hb0⟩ : ∃ b, b = w.heap.size := ⟨_, rfl⟩
  have HBb := hide hb0
  have HN1 := hide (show bcells [kd, 20] = [.int .u8 (kd.toNat : Int), .int .u8 20] from rfl)
  go_enter Try.func38, Try.ntmps38
  go_wp2_with fail
  rw [← HW0.out]
  rw [← hb0] at hz0 hne HB0 c0 hb hlt ⊢
  clear hb0
  go_region_held3 (fun w' => w'.cell? ⟨b, 0, none⟩ = some (.int .i64 x.sp))
    (first | go_keep | exact hf1.cell (by assumption) hne | exact hf2.cell (by assumption) hne1)
    (first
      | (refine step_app rfl (.tmp 7) (.tmp 9) rfl base g k c ys [kd, 20] rfl (HO0.out.alloc (.cells #[.int .u8 (kd.toNat : Int), .int .u8 20] 5)).drew ⟨w0.heap.size, 0, none⟩ 2 2 rfl rfl (news_laid (heap_alloc_new w0 _) HN1.out) (by decide) (by omega) (by simp; omega) (k + 2) rfl (w0.heap.size + 1) (by simp) ?_; intro g1 c1 w1 hown1 hf1 hg1 hlt1; have hne1 : b ≠ g1 := by omega)
      | (go_simp; go_at_call 39; refine (put_any base g1 (k + 2) c1 (k + 4) (ys ++ [kd, 20]) x.sp w1 f1 hown1 rfl (by omega) (by have := hf1.size; simp at this; omega)).mono ?_; rintro e w2 ⟨g2, c2, rfl, hown2, hf2, hg2, hlt2⟩))
  have hz1 := hf1.size
  simp at hz1
  have hz2 := hf2.size
  have HF1 := hide (HF0.out.trans ((((Frm.refl w0 g).alloc (.cells #[.int .u8 (kd.toNat : Int), .int .u8 20] 5)).drew).trans hf1 (.inl rfl)) (.inl rfl))
  have HF2 := hide (HF1.out.trans hf2 (by rw [← HBb.out]; omega))
  have HB2 := hide (hf2.keep (hf1.keep (show (w0.alloc (.cells #[.int .u8 (kd.toNat : Int), .int .u8 20] 5)).drew.heap[b]? = _ from (Below.heap_alloc w0 _ b hz0).trans HB0.out) hne) hne1)
  have hne2 : b ≠ g2 := by omega
  have HO2 := hide hown2
  have d7 : w2.cell? ⟨b, 7, none⟩ = some (.int .i64 x.key) := cell_of_row w2 b 7 _ 25 (0, 0) HB2.out
  have hbs : b < w2.heap.size := by omega
  have HG2 := hide (show g2 = g ∨ b ≤ g2 by omega)
  clear hown1 hf1 hg1 hlt1 hown2 hf2 hg2 c0 HO0 HF0 HB0 hz0
  have HMC := hide (mac_laid (w := w2.drew) HX.out (show w2.drew.heap[b]? = _ from HB2.out))
  go_wp2_with fail
  go_region_held3 (fun w' => w'.cell? ⟨b, 7, none⟩ = some (.int .i64 x.key))
    (first | go_keep | exact hf3.cell (by assumption) hne2 | exact hf4.cell (by assumption) hne3)
    (first
      | (refine step_app rfl (.tmp 14) (.tmp 16) rfl base g2 (k + 4) c2 (ys ++ [kd, 20] ++ two x.sp) (macB x) rfl HO2.out.drew ⟨b, 1, none⟩ 6 6 rfl rfl HMC.out (by decide) (by omega) (by simp; omega) (k + 10) rfl w2.heap.size (by simp) ?_; intro g3 c3 w3 hown3 hf3 hg3 hlt3; have hne3 : b ≠ g3 := by omega)
      | (go_simp; go_at_call 39; refine (put_any base g3 (k + 10) c3 (k + 12) (ys ++ [kd, 20] ++ two x.sp ++ macB x) x.key w3 f2 hown3 rfl (by omega) (by have := hf3.size; simp at this; omega)).mono ?_; rintro e w4 ⟨g4, c4, rfl, hown4, hf4, hg4, hlt4⟩))
  have hz3 := hf3.size
  simp at hz3
  have hz4 := hf4.size
  have HF3 := hide (HF2.out.trans (((Frm.refl w2 g2).drew).trans hf3 (.inl rfl)) (by have := HG2.out; have := HBb.out; omega))
  have HF4 := hide (HF3.out.trans hf4 (by have := HG2.out; have := HBb.out; omega))
  have HB4 := hide (hf4.keep (hf3.keep (show w2.drew.heap[b]? = _ from HB2.out) hne2) hne3)
  have hne4 : b ≠ g4 := by omega
  have HO4 := hide hown4
  have d8 : w4.cell? ⟨b, 8, none⟩ = some (.int .i64 x.pp) := cell_of_row w4 b 8 _ 25 (0, 0) HB4.out
  have d9 : w4.cell? ⟨b, 9, none⟩ = some (.int .i64 x.port) := cell_of_row w4 b 9 _ 25 (0, 0) HB4.out
  have d10 : w4.cell? ⟨b, 10, none⟩ = some (.int .i64 x.st) := cell_of_row w4 b 10 _ 25 (0, 0) HB4.out
  have HG4 := hide (show g4 = g ∨ b ≤ g4 by have := HG2.out; omega)
  have hb4 : base ≤ w4.heap.size := by omega
  clear hown3 hf3 hg3 hlt3 hown4 hf4 hg4 HO2 HB2 d7 HMC
  have HN5 := hide (show bcells [byteOf x.st] = [.int .u8 x.st] by simp only [bcells, List.map_cons, List.map_nil, byteOf_toNat]; rw [Int.emod_eq_of_lt (by omega) (by omega)])
  have HS4 := hide (show St w4 w4 base g4 g4 (k + 12) c4 (ys ++ [kd, 20] ++ two x.sp ++ macB x ++ two x.key) from ⟨HO4.out, Frm.refl _ _, .inl rfl, hb4⟩)
  have hlt4 := HO4.out.lt.2
  have hbw4 : b < w4.heap.size := by omega
  have hwst : IntKind.u8.wrap x.st = x.st := by simp [IntKind.wrap, IntKind.bits, IntKind.signed]; omega
  go_wp2_with fail
  go_region_held3 (fun w' => w'.cell? ⟨b, 8, none⟩ = some (.int .i64 x.pp) ∧ w'.cell? ⟨b, 9, none⟩ = some (.int .i64 x.port) ∧ w'.cell? ⟨b, 10, none⟩ = some (.int .i64 x.st))
    (first | go_keep | (go_split_ands; refine ⟨?_, ?_, ?_⟩ <;> exact hf5.cell (by assumption) hne4) | (go_split_ands; refine ⟨?_, ?_, ?_⟩ <;> exact hf6.cell (by assumption) (hs5.ne hbw4 hne4)) | (go_split_ands; refine ⟨?_, ?_, ?_⟩ <;> exact hf7.cell (by assumption) (hs6.ne hbw4 hne4)))
    (first
      | (go_simp; go_at_call 39; (with_reducible refine (put_st HS4.out.drew x.pp f3 (k + 14) rfl (by omega)).mono ?_); rintro e w5 ⟨g5, c5, rfl, hs5, hf5, hg5⟩)
      | (go_simp; go_at_call 39; (with_reducible refine (put_st (HS4.out.alloc (.cells #[.int .u8 x.st] 5)).drew x.pp f3 (k + 14) rfl (by omega)).mono ?_); rintro e w5 ⟨g5, c5, rfl, hs5, hf5, hg5⟩)
      | (go_simp; go_at_call 39; (with_reducible refine (put_st hs5 x.port f4 (k + 16) rfl (by omega)).mono ?_); rintro e w6 ⟨g6, c6, rfl, hs6, hf6, hg6⟩)
      | (go_simp; go_at_call 39; (with_reducible refine (put_st (hs5.alloc (.cells #[.int .u8 x.st] 5)) x.port f4 (k + 16) rfl (by omega)).mono ?_); rintro e w6 ⟨g6, c6, rfl, hs6, hf6, hg6⟩)
      | (refine step_app rfl (.tmp 27) (.tmp 31) rfl base g6 (k + 16) c6 _ [byteOf x.st] rfl (hs6.own.alloc (.cells #[.int .u8 x.st] 5)) ⟨w6.heap.size, 0, none⟩ 1 1 rfl rfl (news_laid (heap_alloc_new w6 _) HN5.out) (by decide) (by omega) (by have := hs6.bs; have := hs6.size; simp; omega) (k + 17) rfl (w6.heap.size + 1) (by simp) ?_; intro g7 c7 w7 hown7 hf7 hg7 hlt7; have HS7 := hide ((hs6.alloc (.cells #[.int .u8 x.st] 5)).on hf7 hown7 (by simp; omega)))
      | (refine step_app rfl (.tmp 27) (.tmp 31) rfl base g6 (k + 16) c6 _ [byteOf x.st] rfl hs6.own ⟨w5.heap.size, 0, none⟩ 1 1 rfl rfl (news_laid (hf6.keep (heap_alloc_new w5 _) (Ne.symm (Nat.ne_of_lt hs5.own.lt.2))) HN5.out) (by decide) (by omega) (by have := hs6.bs; have := hs6.size; omega) (k + 17) rfl w6.heap.size rfl ?_; intro g7 c7 w7 hown7 hf7 hg7 hlt7; have HS7 := hide (hs6.on hf7 hown7 (by omega)))
      | (refine step_app rfl (.tmp 27) (.tmp 31) rfl base g6 (k + 16) c6 _ [byteOf x.st] rfl hs6.own ⟨w4.heap.size, 0, none⟩ 1 1 rfl rfl (news_laid (hf6.keep (hf5.keep (show (w4.alloc (.cells #[.int .u8 x.st] 5)).drew.heap[w4.heap.size]? = _ from heap_alloc_new w4 _) (Ne.symm (Nat.ne_of_lt hlt4))) (by simp at hg5; omega)) HN5.out) (by decide) (by omega) (by have := hs6.bs; have := hs6.size; omega) (k + 17) rfl w6.heap.size rfl ?_; intro g7 c7 w7 hown7 hf7 hg7 hlt7; have HS7 := hide (hs6.on hf7 hown7 (by omega))))
  all_goals
    have hlt7' := HS7.out.size
    have hbs7 := HS7.out.bs
    clear hs5 hf5 hg5 hs6 hf6 hg6 hown7 hf7 hg7 d8 d9 d10 hwst HN5 HS4 HN1 HX HB4 HO4
    have HM7 := hide (show k + 17 + 3 = m by have := HM.out; omega)
    go_wp2_with (at_builtin; go_loud (refine wpList_zeros rfl (.tmp 33) (.const (.int .i64 3)) rfl base g7 (k + 17) c7 _ rfl HS7.out.own 3 rfl (by decide) (by omega) (by omega) (by omega) m HM7.out ?_))
    intro g8 c8 w8 hown8 hf8 hg8 hlt8
    have HS8 := hide (HS7.out.on hf8 hown8 (by omega))
    clear hown8 hf8 hg8
    go_wp2_with fail
    go_ret
    refine ⟨g8, c8, rfl, ?_, HF4.out.trans HS8.out.frm ?_, ?_, hlt8⟩
    · have h := HS8.out.own
      rw [← HZ.out]
      simpa [Inf.bytes, macB, List.replicate] using h
    · have := HG4.out; have := HBb.out; omega
    · have := HG4.out; have := HBb.out; have := HS8.out.loc; omega
end Go.Proofs.Ytooieocfgifpgaa

/-
  The reader: info.
-/
import Derived.Test.YtooieocfgifpgaaLpO
import Derived.Deep.RegionHeld3
namespace Go.Proofs.Ytooieocfgifpgaa
open Go.RowKit Go.WideShapes Go.ChangeShapes
set_option linter.unusedVariables false

theorem list6' {α : Type} {l : List α} (h : 6 ≤ l.length) : ∃ a b c d e f r, l = a :: b :: c :: d :: e :: f :: r := by
  match l, h with
  | a :: b :: c :: d :: e :: f :: r, _ => exact ⟨a, b, c, d, e, f, r, rfl⟩
theorem six_laid {w : World} {b o : Nat} {m0 m1 m2 m3 m4 m5 : UInt8} {zs : List UInt8} (h : ∀ i, (hi : i < 6) → w.cell? ⟨b, o + i, none⟩ = some (.int .u8 (((m0 :: m1 :: m2 :: m3 :: m4 :: m5 :: zs)[i]'(by simp; omega)).toNat : Int))) :
    ∀ j v, (bcells [m0, m1, m2, m3, m4, m5])[j]? = some v → w.cell? ((⟨b, o, none⟩ : Addr).add j) = some v := fun j v hv => by
  have hj : j < 6 := by
    have := (List.getElem?_eq_some_iff.1 hv).1
    simpa [bcells] using this
  have := h j hj
  have e : ((⟨b, o, none⟩ : Addr).add j) = ⟨b, o + j, none⟩ := by
    simp only [Addr.add]
    split
    · next h0 => rw [h0]; rfl
    · rfl
  rw [e, this, ← hv]
  match j, hj with
  | 0, _ => rfl
  | 1, _ => rfl
  | 2, _ => rfl
  | 3, _ => rfl
  | 4, _ => rfl
  | 5, _ => rfl
theorem taken_ok (rb B k : Nat) (ys : List UInt8) (w : World) (hr : RdAt w rb B ys) (hk1 : 1 ≤ k) (hk2 : k ≤ 100) (hl : k ≤ ys.length) :
    Calls Try.prog 67 #[.pointer (some ⟨rb, 0, none⟩), .int .i64 k] w fun e w' => ∃ b o cap, e = .returned (.slice (some ⟨b, o, none⟩) k cap) ∧ b < B ∧ (∀ i, (hi : i < k) → w'.cell? ⟨b, o + i, none⟩ = some (.int .u8 (ys[i].toNat : Int))) ∧ RdAt w' rb B (ys.drop k) ∧ Frm w w' rb := by
  refine (taken_any rb B k ys w hr hk1 hk2).mono fun e w' h => ?_
  rcases h with ⟨-, A, cap, h1, h2, h3, h4⟩ | ⟨h, -⟩
  · obtain ⟨s1, s2, s3⟩ := h2
    rcases s3 with s3 | ⟨b, o, rfl, hb, hc⟩
    · have : (ys.take k).length = 0 := by rw [s3]; rfl
      rw [List.length_take] at this
      omega
    · exact ⟨b, o, cap, h1, hb, fun i hi => by rw [hc i (by rw [List.length_take]; omega), List.getElem_take], h3, h4⟩
  · omega
theorem taken_no (rb B k : Nat) (ys : List UInt8) (w : World) (hr : RdAt w rb B ys) (hk1 : 1 ≤ k) (hk2 : k ≤ 100) (hl : ys.length < k) :
    Calls Try.prog 67 #[.pointer (some ⟨rb, 0, none⟩), .int .i64 k] w fun e w' => e = .panicked [{ v := .iface 91 (.agg #[]), recovered := false }] ∧ Frm w w' rb := by
  refine (taken_any rb B k ys w hr hk1 hk2).mono fun e w' h => ?_
  rcases h with ⟨h, -⟩ | ⟨-, h⟩
  · omega
  · exact h
def InfoRead (kd : UInt8) (rb B : Nat) (ys : List UInt8) (w : World) (e : Ending) (w' : World) : Prop :=
  (∃ (x : Inf) (zs : List UInt8), x.wf ∧ x.fine ∧ ys = [kd, 20] ++ x.bytes ++ zs ∧ e = .returned (.agg #[.int .i64 x.sp, .int .u8 x.m0, .int .u8 x.m1, .int .u8 x.m2, .int .u8 x.m3, .int .u8 x.m4, .int .u8 x.m5, .int .i64 x.key, .int .i64 x.pp, .int .i64 x.port, .int .i64 x.st]) ∧ RdAt w' rb B zs ∧ Frm w w' rb) ∨
  (¬ InfAt kd ys ∧ e = .panicked [{ v := .iface 91 (.agg #[]), recovered := false }] ∧ Frm w w' rb)

set_option maxRecDepth 100000 in
set_option maxHeartbeats 16000000 in
theorem infoRead_any (kd : UInt8) (kv : Int) (hkv : (kd.toNat : Int) = kv) (rb B : Nat) (ys : List UInt8) (w : World) (hr : RdAt w rb B ys) :
    Calls Try.prog 51 #[.pointer (some ⟨rb, 0, none⟩), .int .u8 kv] w (InfoRead kd rb B ys w) := by
  have hB := hr.1
  have hrl := hr.lt
  have HK := hide hkv
  have hR1 : RdAt ((w.alloc (.cells #[.int .i64 0, .int .u8 0, .int .u8 0, .int .u8 0, .int .u8 0, .int .u8 0, .int .u8 0, .int .i64 0, .int .i64 0, .int .i64 0, .int .i64 0] 25)).alloc (.cells #[.int .u8 kv, .int .u8 20] 5)) rb B ys := (hr.below ((Below.refl _ w).alloc (Nat.le_refl _) (.cells #[.int .i64 0, .int .u8 0, .int .u8 0, .int .u8 0, .int .u8 0, .int .u8 0, .int .u8 0, .int .i64 0, .int .i64 0, .int .i64 0, .int .i64 0] 25))).below ((Below.refl _ _).alloc (Nat.le_refl _) _)
  have HR1 := hide hR1
  have HF1 := hide (((Frm.refl w rb).alloc (.cells #[.int .i64 0, .int .u8 0, .int .u8 0, .int .u8 0, .int .u8 0, .int .u8 0, .int .u8 0, .int .i64 0, .int .i64 0, .int .i64 0, .int .i64 0] 25)).alloc (.cells #[.int .u8 kv, .int .u8 20] 5))
  have HZ1 := hide (show ((w.alloc (.cells #[.int .i64 0, .int .u8 0, .int .u8 0, .int .u8 0, .int .u8 0, .int .u8 0, .int .u8 0, .int .i64 0, .int .i64 0, .int .i64 0, .int .i64 0] 25)).alloc (.cells #[.int .u8 kv, .int .u8 20] 5)).heap[w.heap.size]? = some (.cells #[.int .i64 0, .int .u8 0, .int .u8 0, .int .u8 0, .int .u8 0, .int .u8 0, .int .u8 0, .int .i64 0, .int .i64 0, .int .i64 0, .int .i64 0] 25 (0, 0)) from (Below.heap_alloc _ _ _ (by simp)).trans (heap_alloc_new _ _))
  have HW1 := hide (show ((w.alloc (.cells #[.int .i64 0, .int .u8 0, .int .u8 0, .int .u8 0, .int .u8 0, .int .u8 0, .int .u8 0, .int .i64 0, .int .i64 0, .int .i64 0, .int .i64 0] 25)).alloc (.cells #[.int .u8 kv, .int .u8 20] 5)).heap[w.heap.size + 1]? = some (.cells #[.int .u8 kv, .int .u8 20] 5 (0, 0)) from by simpa using heap_alloc_new (w.alloc (.cells #[.int .i64 0, .int .u8 0, .int .u8 0, .int .u8 0, .int .u8 0, .int .u8 0, .int .u8 0, .int .i64 0, .int .i64 0, .int .i64 0, .int .i64 0] 25)) (.cells #[.int .u8 kv, .int .u8 20] 5))
  obtain ⟨r4, hr4⟩ : ∃ r, r = w.heap.size := ⟨_, rfl⟩
  clear hr hkv hR1
  go_enter Try.func51, Try.ntmps51
  go_wp2_with fail
  refine (must_any rb B (w.heap.size + 1) 2 [kd, 20] ys _ HR1.out (fun i hi => by
    rcases i with _ | _ | i
    · rw [show ([kd, 20] : List UInt8)[0].toNat = kd.toNat from rfl, HK.out]; exact cell_of_row _ _ 0 _ 5 (0, 0) HW1.out
    · exact cell_of_row _ _ 1 _ 5 (0, 0) HW1.out
    · simp at hi; omega) (by omega) (by simp)).mono ?_
  rintro e u2 (⟨zs1, hy1, rfl, hd2, hf2⟩ | ⟨hno, rfl, hf2⟩)
  rotate_left
  · go_wp2_with fail
    exact ⟨rfl, .inr ⟨fun ⟨x, zs, _, _, h⟩ => hno ⟨x.bytes ++ zs, by rw [h, List.append_assoc]⟩, rfl, HF1.out.trans hf2 (.inl rfl)⟩⟩
  have hz2 := hf2.size
  simp at hz2
  have HD2 := hide hd2; have HF2 := hide (HF1.out.trans hf2 (.inl rfl)); have HZ2 := hide (hf2.keep HZ1.out (by omega))
  have HY1 := hide hy1
  clear hd2 hf2 HR1 HF1 HZ1 HW1 hy1
  go_wp2_with fail
  refine (number2_any rb B zs1 u2 HD2.out).mono ?_
  rintro e u3 (⟨sp, zs2, hsp, hy2, rfl, hd3, hf3⟩ | ⟨hno, rfl, hf3⟩)
  rotate_left
  · go_wp2_with fail
    exact ⟨rfl, .inr ⟨inf_short (by rw [HY1.out]; simp; omega), rfl, HF2.out.trans hf3 (.inl rfl)⟩⟩
  have hz3 := hf3.size
  have HD3 := hide hd3; have HF3 := hide (HF2.out.trans hf3 (.inl rfl)); have HZ3 := hide (hf3.keep HZ2.out (by omega))
  have HY2 := hide (show ys = [kd, 20] ++ (two sp ++ zs2) by rw [HY1.out, hy2])
  have HSP := hide hsp
  clear hd3 hf3 HD2 HF2 HZ2 HY1 hy2 hsp
  have HZg := hide (heap_alloc_new u3 (.cells #[.int .i64 0, .int .u8 0, .int .u8 0, .int .u8 0, .int .u8 0, .int .u8 0, .int .u8 0, .int .i64 0, .int .i64 0, .int .i64 0, .int .i64 0] 25))
  go_wp2_with (refine wpList_store_at rfl rfl u3.heap.size 0 #[.int .i64 sp, .int .u8 0, .int .u8 0, .int .u8 0, .int .u8 0, .int .u8 0, .int .u8 0, .int .i64 0, .int .i64 0, .int .i64 0, .int .i64 0] rfl rfl 25 HZg.out (by kernel_rfl) (by simp) (by simp [Value.oneCell']) #[.int .i64 sp, .int .u8 0, .int .u8 0, .int .u8 0, .int .u8 0, .int .u8 0, .int .u8 0, .int .i64 0, .int .i64 0, .int .i64 0, .int .i64 0] rfl ?_; intro u4 hf4 hb4; have HG4 := hide hb4; have HF4a := hide hf4; clear hf4 hb4)
  try simp only [Act.put]
  obtain ⟨g, hg⟩ : ∃ g, g = u3.heap.size := ⟨_, rfl⟩
  have hrg : rb < g := by have := HD3.out.lt; omega
  have hwg : w.heap.size < g := by omega
  have HD4 := hide ((HD3.out.below ((Below.refl _ u3).alloc (Nat.le_refl _) (.cells #[.int .i64 0, .int .u8 0, .int .u8 0, .int .u8 0, .int .u8 0, .int .u8 0, .int .u8 0, .int .i64 0, .int .i64 0, .int .i64 0, .int .i64 0] 25))).frm HF4a.out (by omega) (by omega))
  have HF4 := hide ((HF3.out.alloc (.cells #[.int .i64 0, .int .u8 0, .int .u8 0, .int .u8 0, .int .u8 0, .int .u8 0, .int .u8 0, .int .i64 0, .int .i64 0, .int .i64 0, .int .i64 0] 25)).trans HF4a.out (.inr (by omega)))
  have HZ4 := hide (HF4a.out.keep (show (u3.alloc (.cells #[.int .i64 0, .int .u8 0, .int .u8 0, .int .u8 0, .int .u8 0, .int .u8 0, .int .u8 0, .int .i64 0, .int .i64 0, .int .i64 0, .int .i64 0] 25)).heap[w.heap.size]? = some (.cells #[.int .i64 0, .int .u8 0, .int .u8 0, .int .u8 0, .int .u8 0, .int .u8 0, .int .u8 0, .int .i64 0, .int .i64 0, .int .i64 0, .int .i64 0] 25 (0, 0)) from (Below.heap_alloc u3 _ _ (by omega)).trans HZ3.out) (by omega))
  have hz4 : g < u4.heap.size := by have := HF4a.out.size; simp at this; omega
  rw [← hg] at HG4 ⊢
  clear hg HF4a HZg HD3 HF3 HZ3 hz3 hz2
  by_cases h6 : zs2.length < 6
  · have HN := hide (fun u (hu : RdAt u rb B zs2) => taken_no rb B 6 zs2 u hu (by decide) (by decide) h6)
    have HNo := hide (show ¬ InfAt kd ys from inf_short (by rw [HY2.out]; simp [two]; omega))
    have HFd := hide (show Frm w u4.drew rb from HF4.out.drew)
    refine wp_region_any (by kernel_rfl) ?_
    change wpAny _ _ _ _ _ _ _ (World.drew _)
    refine wpAny_take (i := 0) (v := ?_) rfl (by kernel_rfl) (by kernel_rfl) (by kernel_rfl) (fun _ _ _ h => h) (Or.inl ⟨by rfl, ?h0⟩) ?_
    case h0 => intro w; go_simp; (try with_reducible rfl)
    refine wpAny_take (i := 1) (v := ?_) rfl (by kernel_rfl) (by kernel_rfl) (by kernel_rfl) (fun _ _ _ h => h) (Or.inl ⟨by rfl, ?h1⟩) ?_
    case h1 => intro w; go_simp; (try with_reducible rfl)
    refine wpAny_take (i := 2) (v := ?_) rfl (by kernel_rfl) (by kernel_rfl) (by kernel_rfl) (fun _ _ _ h => h) (Or.inl ⟨by rfl, ?h2⟩) ?_
    case h2 => intro w; go_simp; (try with_reducible rfl)
    refine wpAny_ready (rs := [3]) (by kernel_rfl) (by simp) ?_
    refine AllReady.cons rfl (fun K hK => ?_) AllReady.nil
    go_simp
    refine (HN.out _ (show RdAt u4.drew rb B zs2 from HD4.out)).mono ?_
    rintro e u5 ⟨rfl, hf5⟩
    exact ⟨rfl, .inr ⟨HNo.out, rfl, HFd.out.trans hf5 (.inl rfl)⟩⟩
  obtain ⟨m0, m1, m2, m3, m4, m5, zs3, rfl⟩ := list6' (by omega : 6 ≤ zs2.length)
  clear h6
  have HY3 := hide (show ys = [kd, 20] ++ (two sp ++ ([m0, m1, m2, m3, m4, m5] ++ zs3)) from HY2.out)
  go_region_held3 (fun _ => True) (trivial) (first
    | (refine step_copy6 rfl (.tmp 14) (.tmp 16) 29 29 rfl 5 Try.underlying29 (by kernel_rfl) g 1 6 6 ⟨b5, o5, none⟩ 6 cap5 rfl rfl _ 25 HG5.out (bcells [m0, m1, m2, m3, m4, m5]) rfl HS5.out (by simp [bcells]) (bcells_one _) #[.int .i64 sp, .int .u8 (m0.toNat : Int), .int .u8 (m1.toNat : Int), .int .u8 (m2.toNat : Int), .int .u8 (m3.toNat : Int), .int .u8 (m4.toNat : Int), .int .u8 (m5.toNat : Int), .int .i64 0, .int .i64 0, .int .i64 0, .int .i64 0] rfl ?_; intro u6 hf6 hb6; have HF6a := hide hf6; have HG6 := hide hb6; clear hf6 hb6)
    | (go_simp; go_at_call 67; refine (taken_ok rb B 6 (m0 :: m1 :: m2 :: m3 :: m4 :: m5 :: zs3) _ (show RdAt u4.drew rb B _ from HD4.out) (by decide) (by decide) (by simp)).mono ?_; rintro e u5 ⟨b5, o5, cap5, rfl, hb5, hs5, hd5, hf5⟩; have HF5a := hide hf5; have HD5 := hide (show RdAt u5 rb B zs3 from hd5); have HG5 := hide (hf5.keep (show u4.drew.heap[g]? = _ from HG4.out) (by omega)); have HS5 := hide (six_laid hs5); clear hf5 hd5 hs5))
  have HD6 := hide (HD5.out.frm HF6a.out (by omega) (by omega))
  have HZ6 := hide (HF6a.out.keep (HF5a.out.keep (show u4.drew.heap[w.heap.size]? = _ from HZ4.out) (by omega)) (by omega))
  have HF6 := hide ((HF4.out.drew.trans HF5a.out (.inl rfl)).trans HF6a.out (.inr (by omega)))
  clear HF5a HF6a HD5 HG5 HS5 HD4 HF4 HZ4 HG4 HY2 hz4
  have hrl6 := HD6.out.lt
  go_wp2_with fail
  refine (number2_any rb B zs3 u6 HD6.out).mono ?_
  rintro e u7 (⟨key, zs4, hkey, hyn, rfl, hdn, hfn⟩ | ⟨hno, rfl, hfn⟩)
  rotate_left
  · go_wp2_with fail
    exact ⟨rfl, .inr ⟨inf_short (by rw [HY3.out]; simp [two]; omega), rfl, HF6.out.trans hfn (.inl rfl)⟩⟩
  have HD7 := hide hdn; have HF7 := hide (HF6.out.trans hfn (.inl rfl)); have HZ7 := hide (hfn.keep HZ6.out (by omega)); have HG7 := hide (hfn.keep HG6.out (by omega))
  have HY7 := hide (show ys = [kd, 20] ++ (two sp ++ ([m0, m1, m2, m3, m4, m5] ++ (two key ++ zs4))) by rw [HY3.out, hyn])
  have Hkey := hide hkey
  clear hdn hfn HD6 HF6 HZ6 HG6 HY3 hyn hkey
  go_wp2_with fail
  refine (number2_any rb B zs4 u7 HD7.out).mono ?_
  rintro e u8 (⟨pp, zs5, hpp, hyn, rfl, hdn, hfn⟩ | ⟨hno, rfl, hfn⟩)
  rotate_left
  · go_wp2_with fail
    exact ⟨rfl, .inr ⟨inf_short (by rw [HY7.out]; simp [two]; omega), rfl, HF7.out.trans hfn (.inl rfl)⟩⟩
  have HD8 := hide hdn; have HF8 := hide (HF7.out.trans hfn (.inl rfl)); have HZ8 := hide (hfn.keep HZ7.out (by omega)); have HG8 := hide (hfn.keep HG7.out (by omega))
  have HY8 := hide (show ys = [kd, 20] ++ (two sp ++ ([m0, m1, m2, m3, m4, m5] ++ (two key ++ (two pp ++ zs5)))) by rw [HY7.out, hyn])
  have Hpp := hide hpp
  clear hdn hfn HD7 HF7 HZ7 HG7 HY7 hyn hpp
  go_wp2_with fail
  refine (number2_any rb B zs5 u8 HD8.out).mono ?_
  rintro e u9 (⟨port, zs6, hport, hyn, rfl, hdn, hfn⟩ | ⟨hno, rfl, hfn⟩)
  rotate_left
  · go_wp2_with fail
    exact ⟨rfl, .inr ⟨inf_short (by rw [HY8.out]; simp [two]; omega), rfl, HF8.out.trans hfn (.inl rfl)⟩⟩
  have HD9 := hide hdn; have HF9 := hide (HF8.out.trans hfn (.inl rfl)); have HZ9 := hide (hfn.keep HZ8.out (by omega)); have HG9 := hide (hfn.keep HG8.out (by omega))
  have HY9 := hide (show ys = [kd, 20] ++ (two sp ++ ([m0, m1, m2, m3, m4, m5] ++ (two key ++ (two pp ++ (two port ++ zs6))))) by rw [HY8.out, hyn])
  have Hport := hide hport
  clear hdn hfn HD8 HF8 HZ8 HG8 HY8 hyn hport
  have q7 : u9.cell? ⟨g, 7, none⟩ = some (.int .i64 0) := cell_of_row u9 g 7 _ 25 (0, 0) HG9.out
  have q8 : u9.cell? ⟨g, 8, none⟩ = some (.int .i64 0) := cell_of_row u9 g 8 _ 25 (0, 0) HG9.out
  have q9 : u9.cell? ⟨g, 9, none⟩ = some (.int .i64 0) := cell_of_row u9 g 9 _ 25 (0, 0) HG9.out
  have z7 : u9.frozen? ⟨g, 7, none⟩ = false := frozen_of_row u9 g 7 _ 25 HG9.out
  have z8 : u9.frozen? ⟨g, 8, none⟩ = false := frozen_of_row u9 g 8 _ 25 HG9.out
  have z9 : u9.frozen? ⟨g, 9, none⟩ = false := frozen_of_row u9 g 9 _ 25 HG9.out
  obtain ⟨u10, hu10⟩ : ∃ u, u = ((u9.setCell ⟨g, 7, none⟩ (.int .i64 key)).setCell ⟨g, 8, none⟩ (.int .i64 pp)).setCell ⟨g, 9, none⟩ (.int .i64 port) := ⟨_, rfl⟩
  have hf10 : Frm u9 u10 g := by rw [hu10]; exact (((Frm.refl u9 g).put 7 _).put 8 _).put 9 _
  have HG10 := hide (show u10.heap[g]? = some (.cells #[.int .i64 sp, .int .u8 (m0.toNat : Int), .int .u8 (m1.toNat : Int), .int .u8 (m2.toNat : Int), .int .u8 (m3.toNat : Int), .int .u8 (m4.toNat : Int), .int .u8 (m5.toNat : Int), .int .i64 key, .int .i64 pp, .int .i64 port, .int .i64 0] 25 (0, 0)) by
    rw [hu10, heap_setCell_same _ g 9 _ 25 _ (heap_setCell_same _ g 8 _ 25 _ (heap_setCell_same u9 g 7 _ 25 _ HG9.out))]; rfl)
  have HD10 := hide (HD9.out.frm hf10 (by omega) (by omega)); have HF10 := hide (HF9.out.trans hf10 (.inr (by omega))); have HZ10 := hide (hf10.keep HZ9.out (by omega))
  have HEq := hide hu10
  clear hu10 hf10 HD9 HF9 HZ9 HG9
  go_wp2_with fail
  rw [← HEq.out]
  clear q7 q8 q9 z7 z8 z9 HEq
  refine (taken_any rb B 1 zs6 u10 HD10.out (by decide) (by decide)).mono ?_
  rintro e u11 (⟨hl, A, cap', rfl, hs, hdn, hfn⟩ | ⟨hl, rfl, hfn⟩)
  rotate_left
  · go_wp2_with fail
    exact ⟨rfl, .inr ⟨inf_short (by rw [HY9.out]; simp [two]; omega), rfl, HF10.out.trans hfn (.inl rfl)⟩⟩
  obtain ⟨st, zs7, rfl⟩ : ∃ st zs7, zs6 = st :: zs7 := by
    rcases zs6 with _ | ⟨st, zs7⟩
    · simp at hl
    · exact ⟨st, zs7, rfl⟩
  obtain ⟨s1, s2, s3⟩ := hs
  rcases s3 with s3 | ⟨b, o, rfl, hb, hcc⟩
  · simp at s3
  have c0 : u11.cell? ⟨b, o, none⟩ = some (.int .u8 (st.toNat : Int)) := hcc 0 (by simp)
  have HD11 := hide (show RdAt u11 rb B zs7 from hdn); have HF11 := hide (HF10.out.trans hfn (.inl rfl)); have HZ11 := hide (hfn.keep HZ10.out (by omega)); have HG11 := hide (hfn.keep HG10.out (by omega))
  have q10 : u11.cell? ⟨g, 10, none⟩ = some (.int .i64 0) := cell_of_row u11 g 10 _ 25 (0, 0) HG11.out
  have z10 : u11.frozen? ⟨g, 10, none⟩ = false := frozen_of_row u11 g 10 _ 25 HG11.out
  obtain ⟨u12, hu12⟩ : ∃ u, u = u11.setCell ⟨g, 10, none⟩ (.int .i64 (st.toNat : Int)) := ⟨_, rfl⟩
  have hf12 : Frm u11 u12 g := by rw [hu12]; exact (Frm.refl u11 g).put 10 _
  have HG12 := hide (show u12.heap[g]? = some (.cells #[.int .i64 sp, .int .u8 (m0.toNat : Int), .int .u8 (m1.toNat : Int), .int .u8 (m2.toNat : Int), .int .u8 (m3.toNat : Int), .int .u8 (m4.toNat : Int), .int .u8 (m5.toNat : Int), .int .i64 key, .int .i64 pp, .int .i64 port, .int .i64 (st.toNat : Int)] 25 (0, 0)) by
    rw [hu12, heap_setCell_same u11 g 10 _ 25 _ HG11.out]; rfl)
  have HD12 := hide (HD11.out.frm hf12 (by omega) (by omega)); have HF12 := hide (HF11.out.trans hf12 (.inr (by omega))); have HZ12 := hide (hf12.keep HZ11.out (by omega))
  have HEq := hide hu12
  have hsz : u12.heap.size = u11.heap.size := by rw [hu12]; simp
  have hst := st.toNat_lt
  clear hu12 hf12 HD11 HF11 HZ11 HG11 hdn hfn hcc s1 s2 hl HD10 HF10 HZ10 HG10 hb
  have hmk : ∀ w, (Instr.makeSlice 29 (.int .i64 3) (.int .i64 3)).run Try.prog w = .ok (.slice (some ⟨w.heap.size, 0, none⟩) 3 3) (w.alloc (.cells #[.int .u8 0, .int .u8 0, .int .u8 0] 5)) := fun _ => by kernel_rfl
  go_wp2_with fail
  rw [← HEq.out]
  clear c0 q10 z10 HEq hmk
  have HW13 := hide (show (u12.alloc (.cells #[.int .u8 0, .int .u8 0, .int .u8 0] 5)).heap[u11.heap.size]? = some (.cells #[.int .u8 0, .int .u8 0, .int .u8 0] 5 (0, 0)) by rw [← hsz]; exact heap_alloc_new u12 _)
  have hrl12 := HD12.out.lt
  have hgl12 : g < u12.heap.size := (Array.getElem?_eq_some_iff.1 HG12.out).1
  have hzl12 : w.heap.size < u12.heap.size := (Array.getElem?_eq_some_iff.1 HZ12.out).1
  refine (must_any rb B u11.heap.size 3 [0, 0, 0] zs7 _ (HD12.out.below ((Below.refl _ u12).alloc (Nat.le_refl _) _)) (fun i hi => by
    rcases i with _ | _ | _ | i
    · exact cell_of_row _ _ 0 _ 5 (0, 0) HW13.out
    · exact cell_of_row _ _ 1 _ 5 (0, 0) HW13.out
    · exact cell_of_row _ _ 2 _ 5 (0, 0) HW13.out
    · simp at hi; omega) (by omega) (by simp)).mono ?_
  have HF13 := hide (HF12.out.alloc (.cells #[.int .u8 0, .int .u8 0, .int .u8 0] 5))
  have HZ13 := hide (show (u12.alloc (.cells #[.int .u8 0, .int .u8 0, .int .u8 0] 5)).heap[w.heap.size]? = _ from (Below.heap_alloc u12 _ _ hzl12).trans HZ12.out)
  have HG13 := hide (show (u12.alloc (.cells #[.int .u8 0, .int .u8 0, .int .u8 0] 5)).heap[g]? = _ from (Below.heap_alloc u12 _ _ hgl12).trans HG12.out)
  rintro e u14 (⟨zs8, hy8, rfl, hd14, hf14⟩ | ⟨hno, rfl, hf14⟩)
  rotate_left
  · go_wp2_with fail
    refine ⟨rfl, .inr ⟨fun ⟨x, zs, _, _, h⟩ => hno ⟨zs, ?_⟩, rfl, HF13.out.trans hf14 (.inl rfl)⟩⟩
    rw [HY9.out] at h
    simp [two, Inf.bytes] at h
    simp [h]
  subst hy8
  have HD14 := hide hd14; have HF14 := hide (HF13.out.trans hf14 (.inl rfl)); have HZ14 := hide (hf14.keep HZ13.out (by omega)); have HG14 := hide (hf14.keep HG13.out (by omega))
  clear hd14 hf14 HD12 HF12 HZ12 HG12 HF13 HZ13 HG13 HW13
  obtain ⟨x, hx⟩ : ∃ x : Inf, x = ⟨sp, m0.toNat, m1.toNat, m2.toNat, m3.toNat, m4.toNat, m5.toNat, key, pp, port, st.toNat⟩ := ⟨_, rfl⟩
  have HX := hide hx
  have HG15 := hide (show u14.heap[g]? = some (.cells #[.int .i64 x.sp, .int .u8 x.m0, .int .u8 x.m1, .int .u8 x.m2, .int .u8 x.m3, .int .u8 x.m4, .int .u8 x.m5, .int .i64 x.key, .int .i64 x.pp, .int .i64 x.port, .int .i64 x.st] 25 (0, 0)) by rw [hx]; exact HG14.out)
  clear hx HG14
  go_wp2_with (first | (refine wpList_load_part rfl 25 (.tmp 5) rfl g 0 rfl 25 _ #[.int .i64 x.sp, .int .u8 x.m0, .int .u8 x.m1, .int .u8 x.m2, .int .u8 x.m3, .int .u8 x.m4, .int .u8 x.m5, .int .i64 x.key, .int .i64 x.pp, .int .i64 x.port, .int .i64 x.st] (0, 0) _ HG15.out Try.underlying25 rfl (by kernel_rfl) rfl ?_) | (refine wpList_store_at rfl rfl w.heap.size 0 #[.int .i64 x.sp, .int .u8 x.m0, .int .u8 x.m1, .int .u8 x.m2, .int .u8 x.m3, .int .u8 x.m4, .int .u8 x.m5, .int .i64 x.key, .int .i64 x.pp, .int .i64 x.port, .int .i64 x.st] rfl rfl 25 HZ14.out (by kernel_rfl) (by simp) (inf_ones x) #[.int .i64 x.sp, .int .u8 x.m0, .int .u8 x.m1, .int .u8 x.m2, .int .u8 x.m3, .int .u8 x.m4, .int .u8 x.m5, .int .i64 x.key, .int .i64 x.pp, .int .i64 x.port, .int .i64 x.st] rfl ?_; intro u15 hf15 hb15; have HB15 := hide hb15; have HF15 := hide hf15; clear hf15 hb15))
  (try simp only [Exit.inBlock, Exit.then])
  refine bodyPost_ret (res_inf rfl _ _ w.heap.size x rfl HB15.out) rfl (.inl ⟨x, zs8, ?_, ?_, ?_, rfl, HD14.out.frm HF15.out (by omega) (by omega), HF14.out.trans HF15.out (.inr (by omega))⟩)
  · have h0 := m0.toNat_lt; have h1 := m1.toNat_lt; have h2 := m2.toNat_lt; have h3 := m3.toNat_lt; have h4 := m4.toNat_lt; have h5 := m5.toNat_lt
    have hs := HSP.out; have hk := Hkey.out; have hp := Hpp.out; have hq := Hport.out
    rw [HX.out]
    constructor <;> (show _ ∧ _) <;> simp only <;> omega
  · have hs := HSP.out; have hk := Hkey.out; have hp := Hpp.out; have hq := Hport.out
    rw [HX.out]
    constructor <;> (show _ ∧ _) <;> simp only <;> omega
  · rw [HY9.out, HX.out]
    simp [Inf.bytes, two, byteOf_nat]
end Go.Proofs.Ytooieocfgifpgaa

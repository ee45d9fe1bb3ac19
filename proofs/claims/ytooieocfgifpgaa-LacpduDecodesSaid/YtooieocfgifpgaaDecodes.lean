/-
  Proved: LacpduDecodes: the one that any bytes are: Decode and the reference's Decode answer alike; the law answers true.
  No condition.
-/
import Derived.Test.YtooieocfgifpgaaLpV
namespace Go.Proofs.Ytooieocfgifpgaa
open Go.RowKit Go.ChangeShapes Go.WideShapes Go.ChangeAt
set_option linter.unusedVariables false

/-- What bytes are decoded as. -/
def DecIs (ys : List UInt8) (a p : Inf) (d n : Int) : Prop :=
  (a.wf ∧ a.fine ∧ p.wf ∧ p.fine ∧ (0 ≤ d ∧ d ≤ 65535) ∧ ys = encL a p d ∧ n = 0) ∨
  (¬ WholeAt ys ∧ a = ⟨0, 0, 0, 0, 0, 0, 0, 0, 0, 0, 0⟩ ∧ p = ⟨0, 0, 0, 0, 0, 0, 0, 0, 0, 0, 0⟩ ∧ d = 0 ∧ n = 2)
theorem dec_is {ys : List UInt8} {w w' : World} {e : Ending} (h : DecPost ys w e w') : ∃ (a p : Inf) (d n : Int), DecIs ys a p d n ∧ e = .returned (.tuple #[.agg #[.int .i64 a.sp, .int .u8 a.m0, .int .u8 a.m1, .int .u8 a.m2, .int .u8 a.m3, .int .u8 a.m4, .int .u8 a.m5, .int .i64 a.key, .int .i64 a.pp, .int .i64 a.port, .int .i64 a.st, .int .i64 p.sp, .int .u8 p.m0, .int .u8 p.m1, .int .u8 p.m2, .int .u8 p.m3, .int .u8 p.m4, .int .u8 p.m5, .int .i64 p.key, .int .i64 p.pp, .int .i64 p.port, .int .i64 p.st, .int .i64 d], .int .i64 n]) ∧ Below w.heap.size w w' := by
  rcases h with ⟨a, p, d, k1, k2, k3, k4, k5, k6, rfl, hb⟩ | ⟨hno, rfl, hb⟩
  · exact ⟨a, p, d, 0, .inl ⟨k1, k2, k3, k4, k5, k6, rfl⟩, rfl, hb⟩
  · exact ⟨⟨0, 0, 0, 0, 0, 0, 0, 0, 0, 0, 0⟩, ⟨0, 0, 0, 0, 0, 0, 0, 0, 0, 0, 0⟩, 0, 2, .inr ⟨hno, rfl, rfl, rfl, rfl⟩, rfl, hb⟩
theorem dec_same {ys : List UInt8} {a p b q : Inf} {d n f m : Int} (h : DecIs ys a p d n) (k : DecIs ys b q f m) : b = a ∧ q = p ∧ f = d ∧ m = n := by
  rcases h with ⟨h1, h2, h3, h4, h5, h6, rfl⟩ | ⟨hno, rfl, rfl, rfl, rfl⟩
  · rcases k with ⟨k1, k2, k3, k4, k5, k6, rfl⟩ | ⟨hno, -⟩
    · obtain ⟨e1, e2, e3⟩ := encL_inj k1 k3 h1 h3 k2 k4 h2 h4 k5 h5 (k6.symm.trans h6)
      exact ⟨e1, e2, e3, rfl⟩
    · exact absurd ⟨a, p, d, h1, h2, h3, h4, h5, h6⟩ hno
  · rcases k with ⟨k1, k2, k3, k4, k5, k6, rfl⟩ | ⟨_, rfl, rfl, rfl, rfl⟩
    · exact absurd ⟨b, q, f, k1, k2, k3, k4, k5, k6⟩ hno
    · exact ⟨rfl, rfl, rfl, rfl⟩

set_option maxRecDepth 100000 in
set_option maxHeartbeats 8000000 in
theorem lacpduDecodes_any (A : Option Addr) (cap : Nat) (ys : List UInt8) (w : World) (hl : SrcAt w w.heap.size A cap ys) :
    Calls Try.prog 7 #[.slice A ys.length cap] w fun e w' => e = .returned (.bool true) ∧ Below w.heap.size w w' := by
  have HS := hide hl
  clear hl
  obtain ⟨n, hn⟩ : ∃ n, n = ys.length := ⟨_, rfl⟩
  have HN := hide hn
  rw [← hn]
  clear hn
  go_enter Try.func7, Try.ntmps7
  go_wp2_with fail
  refine (awake_any _).mono ?_
  rintro e w1 ⟨rfl, hb1⟩
  have HW1 := hide hb1
  have HS1 := hide (HS.out.below hb1 (Nat.le_refl _))
  clear hb1
  by_cases hbig : 1000 < n
  · have hbi : (1000 : Int) < (n : Int) := by omega
    go_wp2_with fail
    go_ret
    exact ⟨rfl, HW1.out⟩
  have hbi : ¬ (1000 : Int) < (n : Int) := by omega
  go_wp2_with fail
  refine (show Calls Try.prog 23 #[.slice A n cap] w1 fun e w' => DecPost ys w1 e w' from by have := decode_any A cap ys w1 (HS1.out.mono HW1.out.size); rwa [← HN.out] at this).mono ?_
  rintro e w2 h2
  obtain ⟨a, p, d, m, hd, rfl, hb2⟩ := dec_is h2
  have HD := hide hd
  have HW2 := hide (HW1.out.trans (hb2.mono HW1.out.size))
  have HZ2 := hide (heap_alloc_new w2 (.cells #[.int .i64 0, .int .u8 0, .int .u8 0, .int .u8 0, .int .u8 0, .int .u8 0, .int .u8 0, .int .i64 0, .int .i64 0, .int .i64 0, .int .i64 0, .int .i64 0, .int .u8 0, .int .u8 0, .int .u8 0, .int .u8 0, .int .u8 0, .int .u8 0, .int .i64 0, .int .i64 0, .int .i64 0, .int .i64 0, .int .i64 0] 27))
  clear hb2 h2 hd HS1 HW1
  go_wp2_with (refine wpList_store_at rfl rfl w2.heap.size 0 #[.int .i64 a.sp, .int .u8 a.m0, .int .u8 a.m1, .int .u8 a.m2, .int .u8 a.m3, .int .u8 a.m4, .int .u8 a.m5, .int .i64 a.key, .int .i64 a.pp, .int .i64 a.port, .int .i64 a.st, .int .i64 p.sp, .int .u8 p.m0, .int .u8 p.m1, .int .u8 p.m2, .int .u8 p.m3, .int .u8 p.m4, .int .u8 p.m5, .int .i64 p.key, .int .i64 p.pp, .int .i64 p.port, .int .i64 p.st, .int .i64 d] rfl rfl 27 HZ2.out (by kernel_rfl) (by simp) (lacp_ones a p d) #[.int .i64 a.sp, .int .u8 a.m0, .int .u8 a.m1, .int .u8 a.m2, .int .u8 a.m3, .int .u8 a.m4, .int .u8 a.m5, .int .i64 a.key, .int .i64 a.pp, .int .i64 a.port, .int .i64 a.st, .int .i64 p.sp, .int .u8 p.m0, .int .u8 p.m1, .int .u8 p.m2, .int .u8 p.m3, .int .u8 p.m4, .int .u8 p.m5, .int .i64 p.key, .int .i64 p.pp, .int .i64 p.port, .int .i64 p.st, .int .i64 d] rfl ?_; intro w3 hf3 hb3; have HQ3 := hide hb3; have HW3 := hide ((HW2.out.alloc HW2.out.size (.cells #[.int .i64 0, .int .u8 0, .int .u8 0, .int .u8 0, .int .u8 0, .int .u8 0, .int .u8 0, .int .i64 0, .int .i64 0, .int .i64 0, .int .i64 0, .int .i64 0, .int .u8 0, .int .u8 0, .int .u8 0, .int .u8 0, .int .u8 0, .int .u8 0, .int .i64 0, .int .i64 0, .int .i64 0, .int .i64 0, .int .i64 0] 27)).trans (hf3.below HW2.out.size (by have := HW2.out.size; simp; omega))); have hs3 : w2.heap.size < w3.heap.size := (by have := hf3.size; simp at this; omega); clear hf3 hb3)
  clear HZ2
  refine (show Calls Try.prog 24 #[.slice A n cap] w3 fun e w' => DecPost ys w3 e w' from by have := refDecode_any A cap ys w3 ((HS.out.below HW3.out (Nat.le_refl _)).mono HW3.out.size); rwa [← HN.out] at this).mono ?_
  rintro e w4 h4
  obtain ⟨b, q, f, m', hd4, rfl, hb4⟩ := dec_is h4
  obtain ⟨rfl, rfl, rfl, rfl⟩ := dec_same HD.out hd4
  have HW4 := hide (HW3.out.trans (hb4.mono HW3.out.size))
  have HQ4 := hide ((hb4.block w2.heap.size hs3).trans HQ3.out)
  have HZ4 := hide (heap_alloc_new w4 (.cells #[.int .i64 0, .int .u8 0, .int .u8 0, .int .u8 0, .int .u8 0, .int .u8 0, .int .u8 0, .int .i64 0, .int .i64 0, .int .i64 0, .int .i64 0, .int .i64 0, .int .u8 0, .int .u8 0, .int .u8 0, .int .u8 0, .int .u8 0, .int .u8 0, .int .i64 0, .int .i64 0, .int .i64 0, .int .i64 0, .int .i64 0] 27))
  have hs4 : w2.heap.size < w4.heap.size := by have := hb4.size; omega
  have HQ4' := hide (show (w4.alloc (.cells #[.int .i64 0, .int .u8 0, .int .u8 0, .int .u8 0, .int .u8 0, .int .u8 0, .int .u8 0, .int .i64 0, .int .i64 0, .int .i64 0, .int .i64 0, .int .i64 0, .int .u8 0, .int .u8 0, .int .u8 0, .int .u8 0, .int .u8 0, .int .u8 0, .int .i64 0, .int .i64 0, .int .i64 0, .int .i64 0, .int .i64 0] 27)).heap[w2.heap.size]? = _ from (Below.heap_alloc w4 _ _ hs4).trans HQ4.out)
  clear hb4 h4 hd4 HD HQ3
  go_wp2_with (first
    | (refine wpList_store_at rfl rfl w4.heap.size 0 #[.int .i64 b.sp, .int .u8 b.m0, .int .u8 b.m1, .int .u8 b.m2, .int .u8 b.m3, .int .u8 b.m4, .int .u8 b.m5, .int .i64 b.key, .int .i64 b.pp, .int .i64 b.port, .int .i64 b.st, .int .i64 q.sp, .int .u8 q.m0, .int .u8 q.m1, .int .u8 q.m2, .int .u8 q.m3, .int .u8 q.m4, .int .u8 q.m5, .int .i64 q.key, .int .i64 q.pp, .int .i64 q.port, .int .i64 q.st, .int .i64 f] rfl rfl 27 HZ4.out (by kernel_rfl) (by simp) (lacp_ones b q f) #[.int .i64 b.sp, .int .u8 b.m0, .int .u8 b.m1, .int .u8 b.m2, .int .u8 b.m3, .int .u8 b.m4, .int .u8 b.m5, .int .i64 b.key, .int .i64 b.pp, .int .i64 b.port, .int .i64 b.st, .int .i64 q.sp, .int .u8 q.m0, .int .u8 q.m1, .int .u8 q.m2, .int .u8 q.m3, .int .u8 q.m4, .int .u8 q.m5, .int .i64 q.key, .int .i64 q.pp, .int .i64 q.port, .int .i64 q.st, .int .i64 f] rfl ?_; intro w5 hf5 hb5; have HQ5 := hide hb5; have HR5 := hide (hf5.keep HQ4'.out (by omega)); have HW5 := hide ((HW4.out.alloc HW4.out.size (.cells #[.int .i64 0, .int .u8 0, .int .u8 0, .int .u8 0, .int .u8 0, .int .u8 0, .int .u8 0, .int .i64 0, .int .i64 0, .int .i64 0, .int .i64 0, .int .i64 0, .int .u8 0, .int .u8 0, .int .u8 0, .int .u8 0, .int .u8 0, .int .u8 0, .int .i64 0, .int .i64 0, .int .i64 0, .int .i64 0, .int .i64 0] 27)).trans (hf5.below HW4.out.size (by have := HW4.out.size; simp; omega))); clear hf5 hb5)
    | (refine wpList_load_wt (ty := 27) (x := .tmp 4) rfl rfl w2.heap.size 0 rfl 27 #[.int .i64 b.sp, .int .u8 b.m0, .int .u8 b.m1, .int .u8 b.m2, .int .u8 b.m3, .int .u8 b.m4, .int .u8 b.m5, .int .i64 b.key, .int .i64 b.pp, .int .i64 b.port, .int .i64 b.st, .int .i64 q.sp, .int .u8 q.m0, .int .u8 q.m1, .int .u8 q.m2, .int .u8 q.m3, .int .u8 q.m4, .int .u8 q.m5, .int .i64 q.key, .int .i64 q.pp, .int .i64 q.port, .int .i64 q.st, .int .i64 f] (0, 0) _ HR5.out Try.underlying27 rfl (by kernel_rfl) rfl ?_)
    | (refine wpList_load_wt (ty := 27) (x := .tmp 6) rfl rfl w4.heap.size 0 rfl 27 #[.int .i64 b.sp, .int .u8 b.m0, .int .u8 b.m1, .int .u8 b.m2, .int .u8 b.m3, .int .u8 b.m4, .int .u8 b.m5, .int .i64 b.key, .int .i64 b.pp, .int .i64 b.port, .int .i64 b.st, .int .i64 q.sp, .int .u8 q.m0, .int .u8 q.m1, .int .u8 q.m2, .int .u8 q.m3, .int .u8 q.m4, .int .u8 q.m5, .int .i64 q.key, .int .i64 q.pp, .int .i64 q.port, .int .i64 q.st, .int .i64 f] (0, 0) _ HQ5.out Try.underlying27 rfl (by kernel_rfl) rfl ?_)
    | (refine wpList_eq27g rfl rfl b q f b q f rfl rfl (eqL_self b q f) ?_))
  go_ret
  exact ⟨by simp, HW5.out⟩

/-! ### The row -/
set_option maxRecDepth 100000 in
theorem lacpduDecodes_lifted (os : Os) (started : os.Started) (H : Type) (enc : TypeId × Value → H) :
    ReturnsInHanded {} Try.checked os 7 .any (Rows.lacpduDecodesSpec.pre6 enc Try.prog Try.f7 Rows.lacpduDecodesRow.domain false) (Rows.lacpduDecodesSpec.post enc Try.prog Try.f7 false true false false) := by
  refine returnsInHanded_of_change (C := Try.checked) own started (by kernel_rfl) Try.func7
    (ChangeSpec.witness6 (enc := enc) (C := Try.checked) false ⟨#[], #[.slice none 0 0], []⟩ 8 (by kernel_rfl) (by kernel_rfl) (by kernel_rfl) (by kernel_rfl)) ?_
  intro W base args ds gs before hval0 hW hcnd _
  have hval : ∀ (j : Nat) t v, Try.f7.params[j]? = some t → args[j]? = some v → Value.okWide Try.prog W .any base t v := hval0
  have hW' : DataW.Whole enc Try.prog Try.f7.params.toList Rows.lacpduDecodesSpec.vars false W args.toList ds gs before := hW
  have hlen : args.toList.length = Try.f7.params.toList.length ∧ ds.length = Try.f7.params.toList.length := by
    obtain ⟨p, q, hA, _⟩ := hW'
    exact trodAll_len _ _ _ _ hA
  rw [Try.params7] at hval hlen
  obtain ⟨p0, rfl⟩ := args1 args hlen.1
  obtain ⟨d0, rfl⟩ := list1 ds hlen.2
  obtain rfl : gs = [] := by
    obtain ⟨p, q, _, hV, _⟩ := hW'
    exact (trodVars_none hV).1
  obtain ⟨_, _, hA, _⟩ := id hW'
  rw [Try.params7] at hA
  obtain ⟨_, _, hT0, hA, _⟩ := hA
  obtain ⟨A, cap, ys, rfl, hl⟩ := open_src (hval 0 29 p0 rfl rfl) hT0
  refine (lacpduDecodes_any A cap ys W hl).mono fun e W' ⟨he, hb⟩ => ?_
  subst he
  have hp : ∀ t ∈ Try.f7.params.toList, Try.prog.readableRec t = true ∧ t < Try.prog.types.size := by
    rw [Try.params7]
    intro t ht
    simp at ht
    rcases ht with rfl
    all_goals first | exact readable29
  have hpost := law_post (enc := enc) (P := Try.prog) (f := Try.f7) (s := Rows.lacpduDecodesSpec) (tb := 4) (W' := W') laidOut hW' rfl (by kernel_rfl) Try.underlying4 hp ⟨rfl, rfl, rfl⟩ hb
  exact ⟨_, rfl, hpost⟩

theorem lacpduDecodes_holds : Rows.LacpduDecodesSaid :=
  OpenClaim.holds_of_wide 7 Try.f7 rfl rfl rfl rfl rfl rfl rfl ⟨rfl, rfl, rfl, rfl, rfl⟩ rfl rfl rfl rfl rfl (by kernel_rfl) Try.func7 (by kernel_rfl)
    (of_decide_eq_true (by kernel_rfl)) (by unfold Func.isWrapper; first | (rw [if_pos (by decide +kernel)]; kernel_rfl) | (rw [if_neg (by decide +kernel)]; exact ⟨rfl, rfl⟩))
    (fun os started H enc _ => lacpduDecodes_lifted os started H enc)
#print axioms lacpduDecodes_holds
end Go.Proofs.Ytooieocfgifpgaa

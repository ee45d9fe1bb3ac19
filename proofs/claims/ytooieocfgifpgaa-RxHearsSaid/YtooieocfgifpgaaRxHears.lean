/-
  Proved: RxHears: an end that hears another one is Current, and knows it, with BitSync just if that one knows this one, or is no one of many; the law answers true.
  No condition.
-/
import Derived.Test.YtooieocfgifpgaaRxH
namespace Go.Proofs.Ytooieocfgifpgaa
open Go.RowKit Go.ChangeShapes Go.WideShapes Go.ChangeAt
set_option linter.unusedVariables false

theorem take7 {x : ES} {la lp : Inf} {d now : Int} (h : x.takeE la lp d now = 7) : x.s = 0 := by
  unfold ES.takeE at h
  split at h
  · split at h
    · rename_i hs; simpa using hs
    · split at h
      · split at h <;> simp at h
      · simp at h
  · simp at h
theorem take0 {x : ES} {la lp : Inf} {d now : Int} (h : x.takeE la lp d now = 0) : (x.s == 0) = false := by
  unfold ES.takeE at h
  split at h
  · split at h
    · simp at h
    · rename_i hs; simpa using hs
  · simp at h
theorem heard_p (x : ES) (la lp : Inf) (now : Int) : (x.heard la lp now).s = 3 ∧ { (x.heard la lp now).p with st := la.st } = la ∧ hb (x.heard la lp now).p.st 3 = (hb la.st 3 && (knows lp x.actor || !hb la.st 2)) ∧ bits .or .i64 (x.heard la lp now).p.st 8 = bits .or .i64 la.st 8 := by
  unfold ES.heard
  refine ⟨rfl, ?_, ?_, ?_⟩
  · split <;> rfl
  · cases hm : hb la.st 2 <;> cases hk : knows lp x.actor
    · simp
    · simp
    · simp only [Bool.not_false, Bool.and_self, if_true, Bool.or_false, Bool.not_true, Bool.and_false]
      show hb (bits .andNot .i64 la.st 8) 3 = false
      rw [hb_andNot _ _ _ (by decide), hb_lit bit8 (by decide) 3 (by decide)]
      simp
    · simp
  · split
    · exact or_andNot8 la.st
    · rfl

set_option maxRecDepth 100000 in
set_option maxHeartbeats 16000000 in
theorem rxHears_any (A : Option Addr) (n cap : Nat) (L : Nat → SV) (la lp : Inf) (d now : Int) (w : World) (hl : Steps w w.heap.size A n L) (hla : la.wf) (hlp : lp.wf) (hd : -9223372036854775808 ≤ d ∧ d ≤ 9223372036854775807) (hnow : -9223372036854775808 ≤ now ∧ now ≤ 9223372036854775807) :
    Calls Try.prog 11 #[.slice A n cap, .agg #[.int .i64 la.sp, .int .u8 la.m0, .int .u8 la.m1, .int .u8 la.m2, .int .u8 la.m3, .int .u8 la.m4, .int .u8 la.m5, .int .i64 la.key, .int .i64 la.pp, .int .i64 la.port, .int .i64 la.st, .int .i64 lp.sp, .int .u8 lp.m0, .int .u8 lp.m1, .int .u8 lp.m2, .int .u8 lp.m3, .int .u8 lp.m4, .int .u8 lp.m5, .int .i64 lp.key, .int .i64 lp.pp, .int .i64 lp.port, .int .i64 lp.st, .int .i64 d], .int .i64 now] w fun e w' => e = .returned (.bool true) ∧ Below w.heap.size w w' := by
  have HL := hide hl
  have HB0 := hide (heap_alloc_new w (.cells #[.int .i64 la.sp, .int .u8 la.m0, .int .u8 la.m1, .int .u8 la.m2, .int .u8 la.m3, .int .u8 la.m4, .int .u8 la.m5, .int .i64 la.key, .int .i64 la.pp, .int .i64 la.port, .int .i64 la.st, .int .i64 lp.sp, .int .u8 lp.m0, .int .u8 lp.m1, .int .u8 lp.m2, .int .u8 lp.m3, .int .u8 lp.m4, .int .u8 lp.m5, .int .i64 lp.key, .int .i64 lp.pp, .int .i64 lp.port, .int .i64 lp.st, .int .i64 d] 27))
  have hbA := (Below.refl w.heap.size w).alloc (Nat.le_refl _) (.cells #[.int .i64 la.sp, .int .u8 la.m0, .int .u8 la.m1, .int .u8 la.m2, .int .u8 la.m3, .int .u8 la.m4, .int .u8 la.m5, .int .i64 la.key, .int .i64 la.pp, .int .i64 la.port, .int .i64 la.st, .int .i64 lp.sp, .int .u8 lp.m0, .int .u8 lp.m1, .int .u8 lp.m2, .int .u8 lp.m3, .int .u8 lp.m4, .int .u8 lp.m5, .int .i64 lp.key, .int .i64 lp.pp, .int .i64 lp.port, .int .i64 lp.st, .int .i64 d] 27)
  have HBA := hide hbA
  clear hl hla hlp hd hbA hnow
  go_enter Try.func11, Try.ntmps11
  go_wp2_with fail
  refine (rxAwake_any _).mono ?_
  rintro e w1 ⟨rfl, hb1⟩
  have HB1 := hide (HBA.out.trans (hb1.mono (by simp))); have hs1 : w.heap.size < w1.heap.size := by have := hb1.size; simp at this; omega
  have HN1 := hide ((hb1.block w.heap.size (by simp)).trans HB0.out)
  have HL1 := hide (HL.out.below HB1.out)
  clear hb1 HL
  go_wp2_with fail
  refine (made_any A n cap L w1 w.heap.size (by omega) HL1.out).mono ?_
  rintro e w2 ⟨g, h, x, rfl, hg, hh, hne, hg2, hh2, hf2, ha2, hb2⟩
  have HG2 := hide hg2; have HB2 := hide (HB1.out.trans (hb2.mono (by omega)))
  have HN2 := hide ((hb2.block w.heap.size hs1).trans HN1.out)
  have hs2 : w.heap.size < w2.heap.size := by have := hb2.size; omega
  have hgw : w.heap.size < g := by omega
  clear hg2 hh2 hb2 ha2 hf2 hh hne HL1
  go_wp2_with fail
  refine (state_any g 81 x w2 HG2.out).mono ?_
  rintro e w' ⟨rfl, rfl⟩
  go_wp2_with fail
  refine (actor_any g x w2 HG2.out).mono ?_
  rintro e w4 ⟨rfl, hb4⟩
  have HG4 := hide (HG2.out.below hb4); have HB4 := hide (HB2.out.trans (hb4.mono HB2.out.size))
  have HN4 := hide ((hb4.block w.heap.size hs2).trans HN2.out)
  have hs4 : w.heap.size < w4.heap.size := by have := hb4.size; omega
  have hgl4 := HG4.out.lt
  clear hb4 HG2 HN2
  have HG4' := hide (show EndAt (w4.alloc (.cells #[.int .i64 0, .int .u8 0, .int .u8 0, .int .u8 0, .int .u8 0, .int .u8 0, .int .u8 0, .int .i64 0, .int .i64 0, .int .i64 0, .int .i64 0] 25)) g 81 x from (Below.heap_alloc w4 _ g hgl4).trans HG4.out)
  have HN4' := hide (show (w4.alloc (.cells #[.int .i64 0, .int .u8 0, .int .u8 0, .int .u8 0, .int .u8 0, .int .u8 0, .int .u8 0, .int .i64 0, .int .i64 0, .int .i64 0, .int .i64 0] 25)).heap[w.heap.size]? = some (.cells #[.int .i64 la.sp, .int .u8 la.m0, .int .u8 la.m1, .int .u8 la.m2, .int .u8 la.m3, .int .u8 la.m4, .int .u8 la.m5, .int .i64 la.key, .int .i64 la.pp, .int .i64 la.port, .int .i64 la.st, .int .i64 lp.sp, .int .u8 lp.m0, .int .u8 lp.m1, .int .u8 lp.m2, .int .u8 lp.m3, .int .u8 lp.m4, .int .u8 lp.m5, .int .i64 lp.key, .int .i64 lp.pp, .int .i64 lp.port, .int .i64 lp.st, .int .i64 d] 27 (0, 0)) from (Below.heap_alloc w4 _ _ hs4).trans HN4.out)
  have HZ4 := hide (heap_alloc_new w4 (.cells #[.int .i64 0, .int .u8 0, .int .u8 0, .int .u8 0, .int .u8 0, .int .u8 0, .int .u8 0, .int .i64 0, .int .i64 0, .int .i64 0, .int .i64 0] 25))
  go_wp2_with (first | (refine wpList_store_part rfl rfl w4.heap.size 0 #[.int .i64 x.actor.sp, .int .u8 x.actor.m0, .int .u8 x.actor.m1, .int .u8 x.actor.m2, .int .u8 x.actor.m3, .int .u8 x.actor.m4, .int .u8 x.actor.m5, .int .i64 x.actor.key, .int .i64 x.actor.pp, .int .i64 x.actor.port, .int .i64 x.actor.st] rfl rfl 25 HZ4.out (by kernel_rfl) (by simp) (inf_one x.actor) #[.int .i64 x.actor.sp, .int .u8 x.actor.m0, .int .u8 x.actor.m1, .int .u8 x.actor.m2, .int .u8 x.actor.m3, .int .u8 x.actor.m4, .int .u8 x.actor.m5, .int .i64 x.actor.key, .int .i64 x.actor.pp, .int .i64 x.actor.port, .int .i64 x.actor.st] rfl ?_; intro w5 hf5 hb5; have HP5 := hide hb5; have HF5 := hide hf5; have HN5 := hide (hf5.keep HN4'.out (by omega)); clear hf5 hb5) | (refine wpList_load_part rfl 27 (.tmp 4) rfl w.heap.size 0 rfl 27 _ #[.int .i64 la.sp, .int .u8 la.m0, .int .u8 la.m1, .int .u8 la.m2, .int .u8 la.m3, .int .u8 la.m4, .int .u8 la.m5, .int .i64 la.key, .int .i64 la.pp, .int .i64 la.port, .int .i64 la.st, .int .i64 lp.sp, .int .u8 lp.m0, .int .u8 lp.m1, .int .u8 lp.m2, .int .u8 lp.m3, .int .u8 lp.m4, .int .u8 lp.m5, .int .i64 lp.key, .int .i64 lp.pp, .int .i64 lp.port, .int .i64 lp.st, .int .i64 d] (0, 0) _ HN5.out Try.underlying27 rfl (by kernel_rfl) rfl ?_))
  have HG5 := hide (HG4'.out.frm HF5.out (by omega))
  have HB5 := hide ((HB4.out.alloc HB4.out.size (.cells #[.int .i64 0, .int .u8 0, .int .u8 0, .int .u8 0, .int .u8 0, .int .u8 0, .int .u8 0, .int .i64 0, .int .i64 0, .int .i64 0, .int .i64 0] 25)).trans (HF5.out.below (by omega) (by have := HB4.out.size; simp; omega)))
  obtain ⟨b, hb⟩ : ∃ b, b = w4.heap.size := ⟨_, rfl⟩
  have hs5 : b < w5.heap.size := by have := HF5.out.size; simp at this; omega
  have hgb : g < b := by omega
  have hwb : w.heap.size < b := by omega
  rw [← hb] at HP5 ⊢
  clear hb HG4' HN4' HZ4 HG4 HN4 HF5
  refine (take_any g x la lp d now w5 HG5.out).mono ?_
  rintro e w6 ⟨rfl, hg6, hf6⟩
  have hB6 := HB5.out.trans (hf6.below (base := w.heap.size) (by omega) HB5.out.size)
  have HB6 := hide hB6
  have HP6 := hide (hf6.keep HP5.out (by omega))
  have HN6 := hide (hf6.keep HN5.out (by omega))
  have hs6 : b < w6.heap.size := by have := hf6.size; omega
  clear hf6 HG5 HP5 hB6
  by_cases hE : x.takeE la lp d now = 0
  rotate_left
  · have hx : x.take la lp d now = x := by unfold ES.take; rw [if_neg hE]
    have hT : x.takeT la lp d now = false := by unfold ES.takeT; rw [decide_eq_false hE]; rfl
    rw [hx] at hg6
    rw [hT]
    have HG6 := hide hg6
    have h7 : x.takeE la lp d now = 7 → x.s = 0 := take7
    clear hx hT hg6
    obtain ⟨E, hEE⟩ : ∃ E, E = x.takeE la lp d now := ⟨_, rfl⟩
    rw [← hEE] at hE h7 ⊢
    clear hEE
    have e0 : (E != 0) = true := by simpa using hE
    obtain ⟨D7, hD7⟩ : ∃ D, (E != 7) = D := ⟨_, rfl⟩
    obtain ⟨S, hS⟩ : ∃ S, S = x.s := ⟨_, rfl⟩
    have h70 : D7 = false → (S == 0) = true := fun h => by
      subst h
      have : E = 7 := by simpa using hD7
      rw [hS, h7 this]; rfl
    have hSS := hS
    clear h7 hE
    cases D7
    all_goals
      try have hS0 := h70 rfl
      clear h70
      rw [← hS]
      have HSx := hide hS
      clear hS hSS
      go_wp2_with fail
      refine wp_region_class (by kernel_rfl) (by kernel_rfl) (fun C hC hSC hN => ?_)
      have KG := hide (show ∀ u : Of C, EndAt u.w g 81 x from fun u => HG6.out.below (hC _ u.ok))
      have KP := hide (show ∀ u, (∃ x : Of C, u = x.w) → u.heap[b]? = some (.cells #[.int .i64 x.actor.sp, .int .u8 x.actor.m0, .int .u8 x.actor.m1, .int .u8 x.actor.m2, .int .u8 x.actor.m3, .int .u8 x.actor.m4, .int .u8 x.actor.m5, .int .i64 x.actor.key, .int .i64 x.actor.pp, .int .i64 x.actor.port, .int .i64 x.actor.st] 25 (0, 0)) from fun u ⟨y, hy⟩ => by rw [hy]; exact ((hC _ y.ok).block b hs6).trans HP6.out)
      have HSt := hide (show ∀ u : Of C, Calls Try.prog 29 #[.pointer (some ⟨g, 0, none⟩)] u.w fun e w' => e = .returned (.int .i64 S) ∧ Below u.w.heap.size u.w w' from fun u => by rw [HSx.out]; exact (state_any g 81 x _ (KG.out u)).mono fun e w' ⟨a, b⟩ => ⟨a, b ▸ Below.refl _ _⟩)
      have HS := hide hSC; clear hSC
      repeat (first
        | (go_big_quiet_want; refine quiet_load_part 25 (.tmp 12) rfl b 0 rfl 25 _ #[.int .i64 x.actor.sp, .int .u8 x.actor.m0, .int .u8 x.actor.m1, .int .u8 x.actor.m2, .int .u8 x.actor.m3, .int .u8 x.actor.m4, .int .u8 x.actor.m5, .int .i64 x.actor.key, .int .i64 x.actor.pp, .int .i64 x.actor.port, .int .i64 x.actor.st] (0, 0) _ KP.out Try.underlying25 rfl (by kernel_rfl) rfl ?_; go_big_quiet_on; simp only [Act.put, List.setIfInBounds_toArray, List.set_cons_succ, List.set_cons_zero])
        | (go_big_quiet_want; refine quiet_run (.bool true) (fun w => run_eq_same (x := x.actor) w rfl rfl rfl) ?_; go_big_quiet_on; simp only [Act.put, List.setIfInBounds_toArray, List.set_cons_succ, List.set_cons_zero])
        | go_big_quiet_step ((first
          | (go_at_call 29; exact Calls.of_class HS.out (HSt.out _))
          | (go_at_call 30; exact Calls.of_class HS.out (actor_any g x _ (KG.out _))))))
      refine wpQuiet_nil ?_
      intro u hu
      have HU := hide (HB6.out.trans (hu.mono HB6.out.size))
      clear hu
      go_wp2_with fail
      go_ret
      exact ⟨by simp, HU.out⟩
  have hx : x.take la lp d now = x.heard la lp now := by unfold ES.take; rw [if_pos hE]
  rw [hx] at hg6
  rw [hE]
  have h0 := take0 hE
  obtain ⟨y, hy⟩ : ∃ y, y = x.heard la lp now := ⟨_, rfl⟩
  obtain ⟨hs, hsame, h8, hor⟩ := heard_p x la lp now
  rw [← hy] at hg6 hs hsame h8 hor
  have HG6 := hide hg6
  have HS3 := hide hs
  have HSame := hide hsame
  obtain ⟨me, hme⟩ : ∃ me, me = x.actor := ⟨_, rfl⟩
  rw [← hme] at h8 HP6
  have f8 := and8' y.p.st
  have l8 := and8' la.st
  have l4 := and4e la.st
  have for_ : (bits .or .i64 y.p.st 8 == bits .or .i64 la.st 8) = true := by rw [hor]; simp
  have HKn := hide (fun u => refKnows_any lp me u)
  rw [h8] at f8
  generalize knows lp me = K at f8 HKn h8
  generalize hb la.st 3 = b3 at f8 l8 h8
  generalize hb la.st 2 = mb at f8 l4 h8
  have HF8 := hide f8; have HFO := hide for_
  clear hx hg6 hs hsame h8 hor hy f8 for_ hE
  rw [← hme]
  clear hme
  have hgl6 := HG6.out.lt
  go_wp2_with fail
  refine (partner_any g y w6 HG6.out).mono ?_
  rintro e w7 ⟨rfl, hb7⟩
  have HG7 := hide (HG6.out.below hb7); have HB7 := hide (HB6.out.trans (hb7.mono HB6.out.size))
  have HN7 := hide ((hb7.block w.heap.size (by omega)).trans HN6.out)
  have HP7 := hide ((hb7.block b hs6).trans HP6.out)
  have hs7 : b < w7.heap.size := by have := hb7.size; omega
  have hgl7 := HG7.out.lt
  clear hb7 HG6 HN6 HP6
  have HG7' := hide (show EndAt (w7.alloc (.cells #[.int .i64 0, .int .u8 0, .int .u8 0, .int .u8 0, .int .u8 0, .int .u8 0, .int .u8 0, .int .i64 0, .int .i64 0, .int .i64 0, .int .i64 0] 25)) g 81 y from (Below.heap_alloc w7 _ g hgl7).trans HG7.out)
  have HN7' := hide (show (w7.alloc (.cells #[.int .i64 0, .int .u8 0, .int .u8 0, .int .u8 0, .int .u8 0, .int .u8 0, .int .u8 0, .int .i64 0, .int .i64 0, .int .i64 0, .int .i64 0] 25)).heap[w.heap.size]? = some (.cells #[.int .i64 la.sp, .int .u8 la.m0, .int .u8 la.m1, .int .u8 la.m2, .int .u8 la.m3, .int .u8 la.m4, .int .u8 la.m5, .int .i64 la.key, .int .i64 la.pp, .int .i64 la.port, .int .i64 la.st, .int .i64 lp.sp, .int .u8 lp.m0, .int .u8 lp.m1, .int .u8 lp.m2, .int .u8 lp.m3, .int .u8 lp.m4, .int .u8 lp.m5, .int .i64 lp.key, .int .i64 lp.pp, .int .i64 lp.port, .int .i64 lp.st, .int .i64 d] 27 (0, 0)) from (Below.heap_alloc w7 _ _ (by omega)).trans HN7.out)
  have HP7' := hide (show (w7.alloc (.cells #[.int .i64 0, .int .u8 0, .int .u8 0, .int .u8 0, .int .u8 0, .int .u8 0, .int .u8 0, .int .i64 0, .int .i64 0, .int .i64 0, .int .i64 0] 25)).heap[b]? = some (.cells #[.int .i64 me.sp, .int .u8 me.m0, .int .u8 me.m1, .int .u8 me.m2, .int .u8 me.m3, .int .u8 me.m4, .int .u8 me.m5, .int .i64 me.key, .int .i64 me.pp, .int .i64 me.port, .int .i64 me.st] 25 (0, 0)) from (Below.heap_alloc w7 _ _ hs7).trans HP7.out)
  have HZ7 := hide (heap_alloc_new w7 (.cells #[.int .i64 0, .int .u8 0, .int .u8 0, .int .u8 0, .int .u8 0, .int .u8 0, .int .u8 0, .int .i64 0, .int .i64 0, .int .i64 0, .int .i64 0] 25))
  go_upto_region 11 with (refine wpList_store_part rfl rfl w7.heap.size 0 #[.int .i64 y.p.sp, .int .u8 y.p.m0, .int .u8 y.p.m1, .int .u8 y.p.m2, .int .u8 y.p.m3, .int .u8 y.p.m4, .int .u8 y.p.m5, .int .i64 y.p.key, .int .i64 y.p.pp, .int .i64 y.p.port, .int .i64 y.p.st] rfl rfl 25 HZ7.out (by kernel_rfl) (by simp) (inf_one y.p) #[.int .i64 y.p.sp, .int .u8 y.p.m0, .int .u8 y.p.m1, .int .u8 y.p.m2, .int .u8 y.p.m3, .int .u8 y.p.m4, .int .u8 y.p.m5, .int .i64 y.p.key, .int .i64 y.p.pp, .int .i64 y.p.port, .int .i64 y.p.st] rfl ?_; intro w8 hf8 hb8; have HQ8 := hide hb8; have HF8w := hide hf8; clear hf8 hb8)
  try simp only [Act.put]
  have HG8 := hide (HG7'.out.frm HF8w.out (by omega))
  have HN8 := hide (HF8w.out.keep HN7'.out (by omega))
  have HP8 := hide (HF8w.out.keep HP7'.out (by omega))
  have HB8 := hide ((HB7.out.alloc HB7.out.size (.cells #[.int .i64 0, .int .u8 0, .int .u8 0, .int .u8 0, .int .u8 0, .int .u8 0, .int .u8 0, .int .i64 0, .int .i64 0, .int .i64 0, .int .i64 0] 25)).trans (HF8w.out.below (by omega) (by have := HB7.out.size; simp; omega)))
  obtain ⟨c, hc⟩ : ∃ c, c = w7.heap.size := ⟨_, rfl⟩
  have hs8 : c < w8.heap.size := by have := HF8w.out.size; simp at this; omega
  have hbc : b < c := by omega
  rw [← hc] at HQ8 ⊢
  clear hc HG7' HN7' HP7' HZ7 HG7 HN7 HP7 HF8w
  have q10 : w8.cell? ⟨w.heap.size, 10, none⟩ = some (.int .i64 la.st) := cell_of_row w8 _ 10 _ 27 (0, 0) HN8.out
  go_cut [16] (fun v wx => v = .bool (b3 && (K || !mb)) ∧ Below w8.heap.size w8 wx)
  case first =>
    cases b3
    · go_wp2
      go_meet
      exact ⟨rfl, Below.refl _ _⟩
    · go_wp2_with (first | (refine wpList_load_g (ty := 25) (x := .tmp 78) rfl rfl w.heap.size 11 rfl 27 #[.int .i64 lp.sp, .int .u8 lp.m0, .int .u8 lp.m1, .int .u8 lp.m2, .int .u8 lp.m3, .int .u8 lp.m4, .int .u8 lp.m5, .int .i64 lp.key, .int .i64 lp.pp, .int .i64 lp.port, .int .i64 lp.st] (0, 0) _ HN8.out Try.underlying25 rfl (by kernel_rfl) rfl ?_) | (refine wpList_load_g (ty := 25) (x := .tmp 12) rfl rfl b 0 rfl 25 #[.int .i64 me.sp, .int .u8 me.m0, .int .u8 me.m1, .int .u8 me.m2, .int .u8 me.m3, .int .u8 me.m4, .int .u8 me.m5, .int .i64 me.key, .int .i64 me.pp, .int .i64 me.port, .int .i64 me.st] (0, 0) _ HP8.out Try.underlying25 rfl (by kernel_rfl) rfl ?_))
      refine (HKn.out w8).mono ?_
      rintro e w9 ⟨rfl, hb9⟩
      have r10 : w9.cell? ⟨w.heap.size, 10, none⟩ = some (.int .i64 la.st) := (hb9.cell (by show w.heap.size < w8.heap.size; omega)).trans q10
      have HB9 := hide hb9
      clear hb9 q10
      cases K
      all_goals
        go_wp2_with fail
        go_meet
        exact ⟨by simp, HB9.out⟩
  case rest =>
    obtain ⟨rfl, hbc'⟩ := hcut
    have HG9 := hide (HG8.out.below hbc')
    have HN9 := hide ((hbc'.block w.heap.size (by omega)).trans HN8.out)
    have HQ9 := hide ((hbc'.block c hs8).trans HQ8.out)
    have HB9 := hide (HB8.out.trans (hbc'.mono HB8.out.size))
    have hs9 : c < wc.heap.size := by have := hbc'.size; omega
    have hgl9 := HG9.out.lt
    clear hbc' HG8 HN8 HQ8 HP8 q10 HKn l4 l8
    obtain ⟨Sy, hSy⟩ : ∃ S, S = (b3 && (K || !mb)) := ⟨_, rfl⟩
    have F8 := HF8.out
    rw [← hSy] at F8 ⊢
    have HF8b := hide F8
    clear hSy F8 HF8
    have HG9' := hide (show EndAt (wc.alloc (.cells #[.int .i64 0, .int .u8 0, .int .u8 0, .int .u8 0, .int .u8 0, .int .u8 0, .int .u8 0, .int .i64 0, .int .i64 0, .int .i64 0, .int .i64 0] 25)) g 81 y from (Below.heap_alloc wc _ g hgl9).trans HG9.out)
    have HN9' := hide (show (wc.alloc (.cells #[.int .i64 0, .int .u8 0, .int .u8 0, .int .u8 0, .int .u8 0, .int .u8 0, .int .u8 0, .int .i64 0, .int .i64 0, .int .i64 0, .int .i64 0] 25)).heap[w.heap.size]? = some (.cells #[.int .i64 la.sp, .int .u8 la.m0, .int .u8 la.m1, .int .u8 la.m2, .int .u8 la.m3, .int .u8 la.m4, .int .u8 la.m5, .int .i64 la.key, .int .i64 la.pp, .int .i64 la.port, .int .i64 la.st, .int .i64 lp.sp, .int .u8 lp.m0, .int .u8 lp.m1, .int .u8 lp.m2, .int .u8 lp.m3, .int .u8 lp.m4, .int .u8 lp.m5, .int .i64 lp.key, .int .i64 lp.pp, .int .i64 lp.port, .int .i64 lp.st, .int .i64 d] 27 (0, 0)) from (Below.heap_alloc wc _ _ (by omega)).trans HN9.out)
    have HQ9' := hide (show (wc.alloc (.cells #[.int .i64 0, .int .u8 0, .int .u8 0, .int .u8 0, .int .u8 0, .int .u8 0, .int .u8 0, .int .i64 0, .int .i64 0, .int .i64 0, .int .i64 0] 25)).heap[c]? = some (.cells #[.int .i64 y.p.sp, .int .u8 y.p.m0, .int .u8 y.p.m1, .int .u8 y.p.m2, .int .u8 y.p.m3, .int .u8 y.p.m4, .int .u8 y.p.m5, .int .i64 y.p.key, .int .i64 y.p.pp, .int .i64 y.p.port, .int .i64 y.p.st] 25 (0, 0)) from (Below.heap_alloc wc _ _ hs9).trans HQ9.out)
    have HZ9 := hide (heap_alloc_new wc (.cells #[.int .i64 0, .int .u8 0, .int .u8 0, .int .u8 0, .int .u8 0, .int .u8 0, .int .u8 0, .int .i64 0, .int .i64 0, .int .i64 0, .int .i64 0] 25))
    obtain ⟨s0, hs0⟩ : ∃ s0, s0 = wc.heap.size := ⟨_, rfl⟩
    go_upto_region 13 with (first | (refine wpList_load_part rfl 25 (.tmp 15) rfl c 0 rfl 25 _ #[.int .i64 y.p.sp, .int .u8 y.p.m0, .int .u8 y.p.m1, .int .u8 y.p.m2, .int .u8 y.p.m3, .int .u8 y.p.m4, .int .u8 y.p.m5, .int .i64 y.p.key, .int .i64 y.p.pp, .int .i64 y.p.port, .int .i64 y.p.st] (0, 0) _ HQ9.out Try.underlying25 rfl (by kernel_rfl) rfl ?_) | (refine wpList_load_part rfl 25 (.tmp 15) rfl c 0 rfl 25 _ #[.int .i64 y.p.sp, .int .u8 y.p.m0, .int .u8 y.p.m1, .int .u8 y.p.m2, .int .u8 y.p.m3, .int .u8 y.p.m4, .int .u8 y.p.m5, .int .i64 y.p.key, .int .i64 y.p.pp, .int .i64 y.p.port, .int .i64 y.p.st] (0, 0) _ HQ9'.out Try.underlying25 rfl (by kernel_rfl) rfl ?_) | (refine wpList_store_part rfl rfl wc.heap.size 0 #[.int .i64 y.p.sp, .int .u8 y.p.m0, .int .u8 y.p.m1, .int .u8 y.p.m2, .int .u8 y.p.m3, .int .u8 y.p.m4, .int .u8 y.p.m5, .int .i64 y.p.key, .int .i64 y.p.pp, .int .i64 y.p.port, .int .i64 y.p.st] rfl rfl 25 HZ9.out (by kernel_rfl) (by simp) (inf_one y.p) #[.int .i64 y.p.sp, .int .u8 y.p.m0, .int .u8 y.p.m1, .int .u8 y.p.m2, .int .u8 y.p.m3, .int .u8 y.p.m4, .int .u8 y.p.m5, .int .i64 y.p.key, .int .i64 y.p.pp, .int .i64 y.p.port, .int .i64 y.p.st] rfl ?_; intro w10 hf10 hb10; have HR10 := hide hb10; have HF10 := hide hf10; clear hf10 hb10))
    try simp only [Act.put]
    have HG10 := hide (HG9'.out.frm HF10.out (by omega))
    have HN10 := hide (HF10.out.keep HN9'.out (by omega))
    have HQ10 := hide (HF10.out.keep HQ9'.out (by omega))
    have HB10 := hide ((HB9.out.alloc HB9.out.size (.cells #[.int .i64 0, .int .u8 0, .int .u8 0, .int .u8 0, .int .u8 0, .int .u8 0, .int .u8 0, .int .i64 0, .int .i64 0, .int .i64 0, .int .i64 0] 25)).trans (HF10.out.below (by omega) (by have := HB9.out.size; simp; omega)))
    have hs10 : s0 < w10.heap.size := by have := HF10.out.size; simp at this; omega
    have hcs : c < s0 := by omega
    rw [← hs0] at HR10 ⊢
    clear hs0 HG9' HN9' HQ9' HZ9 HG9 HN9 HQ9 HF10
    have q10 : w10.cell? ⟨w.heap.size, 10, none⟩ = some (.int .i64 la.st) := cell_of_row w10 _ 10 _ 27 (0, 0) HN10.out
    have r10 : w10.cell? ⟨s0, 10, none⟩ = some (.int .i64 y.p.st) := cell_of_row w10 _ 10 _ 25 (0, 0) HR10.out
    have z10 : w10.frozen? ⟨s0, 10, none⟩ = false := frozen_of_row w10 s0 10 _ 25 HR10.out
    obtain ⟨w11, hw11⟩ : ∃ w11, w11 = w10.setCell ⟨s0, 10, none⟩ (.int .i64 la.st) := ⟨_, rfl⟩
    have HW11 := hide hw11
    have hF11 : Frm w10 w11 s0 := by rw [hw11]; exact (Frm.refl w10 s0).setCell 10 _
    have HR11 := hide (show w11.heap[s0]? = some (.cells #[.int .i64 la.sp, .int .u8 la.m0, .int .u8 la.m1, .int .u8 la.m2, .int .u8 la.m3, .int .u8 la.m4, .int .u8 la.m5, .int .i64 la.key, .int .i64 la.pp, .int .i64 la.port, .int .i64 la.st] 25 (0, 0)) by
      rw [hw11, heap_setCell_same w10 s0 10 _ 25 (.int .i64 la.st) HR10.out]
      have e := HSame.out
      have e' : (#[.int .i64 y.p.sp, .int .u8 y.p.m0, .int .u8 y.p.m1, .int .u8 y.p.m2, .int .u8 y.p.m3, .int .u8 y.p.m4, .int .u8 y.p.m5, .int .i64 y.p.key, .int .i64 y.p.pp, .int .i64 y.p.port, .int .i64 y.p.st] : Array Value).setIfInBounds 10 (.int .i64 la.st) = (fun z : Inf => (#[.int .i64 z.sp, .int .u8 z.m0, .int .u8 z.m1, .int .u8 z.m2, .int .u8 z.m3, .int .u8 z.m4, .int .u8 z.m5, .int .i64 z.key, .int .i64 z.pp, .int .i64 z.port, .int .i64 z.st] : Array Value)) { y.p with st := la.st } := rfl
      rw [e', e])
    have HG11 := hide (HG10.out.frm hF11 (by omega))
    have HN11 := hide (hF11.keep HN10.out (by omega))
    have HQ11 := hide (hF11.keep HQ10.out (by omega))
    have HB11 := hide (HB10.out.trans (hF11.below (by omega) HB10.out.size))
    clear hw11 hF11 HG10 HN10 HQ10 HR10
    go_wp2_with fail
    rw [← HW11.out]
    clear q10 r10 z10
    refine (state_any g 81 y w11 HG11.out).mono ?_
    rintro e w' ⟨rfl, rfl⟩
    rw [HS3.out]
    have q10 : w11.cell? ⟨w.heap.size, 10, none⟩ = some (.int .i64 la.st) := cell_of_row w11 _ 10 _ 27 (0, 0) HN11.out
    have r10 : w11.cell? ⟨c, 10, none⟩ = some (.int .i64 y.p.st) := cell_of_row w11 _ 10 _ 25 (0, 0) HQ11.out
    have f8 := HF8b.out
    have fo := HFO.out
    have hn0 := ne_of h0
    simp only [Bool.not_false] at hn0
    go_wp2_with (first | (refine wpList_load_g (ty := 25) (x := .tmp 17) rfl rfl s0 0 rfl 25 #[.int .i64 la.sp, .int .u8 la.m0, .int .u8 la.m1, .int .u8 la.m2, .int .u8 la.m3, .int .u8 la.m4, .int .u8 la.m5, .int .i64 la.key, .int .i64 la.pp, .int .i64 la.port, .int .i64 la.st] (0, 0) _ HR11.out Try.underlying25 rfl (by kernel_rfl) rfl ?_) | (refine wpList_load_g (ty := 25) (x := .tmp 104) rfl rfl w.heap.size 0 rfl 27 #[.int .i64 la.sp, .int .u8 la.m0, .int .u8 la.m1, .int .u8 la.m2, .int .u8 la.m3, .int .u8 la.m4, .int .u8 la.m5, .int .i64 la.key, .int .i64 la.pp, .int .i64 la.port, .int .i64 la.st] (0, 0) _ HN11.out Try.underlying25 rfl (by kernel_rfl) rfl ?_) | (refine wpList_eq25g rfl rfl la la rfl rfl (eqI_self la) ?_))
    go_ret
    exact ⟨by simp, HB11.out⟩

/-! ### The row -/
set_option maxRecDepth 100000 in
theorem rxHears_lifted (os : Os) (started : os.Started) (H : Type) (enc : TypeId × Value → H) :
    ReturnsInHanded {} Try.checked os 11 .any (Rows.rxHearsSpec.pre6 enc Try.prog Try.f11 Rows.rxHearsRow.domain false) (Rows.rxHearsSpec.post enc Try.prog Try.f11 false true false false) := by
  refine returnsInHanded_of_change (C := Try.checked) own started (by kernel_rfl) Try.func11
    (ChangeSpec.witness6 (enc := enc) (C := Try.checked) false ⟨#[], #[.slice none 0 0, .agg #[.int .i64 0, .int .u8 0, .int .u8 0, .int .u8 0, .int .u8 0, .int .u8 0, .int .u8 0, .int .i64 0, .int .i64 0, .int .i64 0, .int .i64 0, .int .i64 0, .int .u8 0, .int .u8 0, .int .u8 0, .int .u8 0, .int .u8 0, .int .u8 0, .int .i64 0, .int .i64 0, .int .i64 0, .int .i64 0, .int .i64 0], .int .i64 0], []⟩ 8 (by kernel_rfl) (by kernel_rfl) (by kernel_rfl) (by kernel_rfl)) ?_
  intro W base args ds gs before hval0 hW hcnd _
  have hval : ∀ (j : Nat) t v, Try.f11.params[j]? = some t → args[j]? = some v → Value.okWide Try.prog W .any base t v := hval0
  have hW' : DataW.Whole enc Try.prog Try.f11.params.toList Rows.rxHearsSpec.vars false W args.toList ds gs before := hW
  have hlen : args.toList.length = Try.f11.params.toList.length ∧ ds.length = Try.f11.params.toList.length := by
    obtain ⟨p, q, hA, _⟩ := hW'
    exact trodAll_len _ _ _ _ hA
  rw [Try.params11] at hval hlen
  obtain ⟨p0, p1, p2, rfl⟩ := args3 args hlen.1
  obtain ⟨d0, d1, d2, rfl⟩ := list3 ds hlen.2
  obtain rfl : gs = [] := by
    obtain ⟨p, q, _, hV, _⟩ := hW'
    exact (trodVars_none hV).1
  obtain ⟨_, _, hA, _⟩ := id hW'
  rw [Try.params11] at hA
  obtain ⟨_, _, hT0, hA, _⟩ := hA
  obtain ⟨_, _, hT1, hA, _⟩ := hA
  obtain ⟨_, _, hT2, hA, _⟩ := hA
  obtain ⟨A, n, cap, L, rfl, hl⟩ := open_rsteps (hval 0 41 p0 rfl rfl) hT0
  obtain ⟨xa, xp, xd, rfl, hxa, hxp, hxd⟩ := open_lacp (hval 1 27 p1 rfl rfl)
  obtain ⟨now, rfl, hnow⟩ := open_i64 (hval 2 3 p2 rfl rfl)
  refine (rxHears_any A n cap L xa xp xd now W hl hxa hxp hxd hnow).mono fun e W' ⟨he, hb⟩ => ?_
  subst he
  have hp : ∀ t ∈ Try.f11.params.toList, Try.prog.readableRec t = true ∧ t < Try.prog.types.size := by
    rw [Try.params11]
    intro t ht
    simp at ht
    rcases ht with rfl | rfl | rfl
    all_goals first | exact readable27 | exact readable3 | exact readable41
  have hpost := law_post (enc := enc) (P := Try.prog) (f := Try.f11) (s := Rows.rxHearsSpec) (tb := 4) (W' := W') laidOut hW' rfl (by kernel_rfl) Try.underlying4 hp ⟨rfl, rfl, rfl⟩ hb
  exact ⟨_, rfl, hpost⟩

theorem rxHears_holds : Rows.RxHearsSaid :=
  OpenClaim.holds_of_wide 11 Try.f11 rfl rfl rfl rfl rfl rfl rfl ⟨rfl, rfl, rfl, rfl, rfl⟩ rfl rfl rfl rfl rfl (by kernel_rfl) Try.func11 (by kernel_rfl)
    (of_decide_eq_true (by kernel_rfl)) (by unfold Func.isWrapper; first | (rw [if_pos (by decide +kernel)]; kernel_rfl) | (rw [if_neg (by decide +kernel)]; exact ⟨rfl, rfl⟩))
    (fun os started H enc _ => rxHears_lifted os started H enc)
#print axioms rxHears_holds
end Go.Proofs.Ytooieocfgifpgaa

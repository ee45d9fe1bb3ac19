/-
  The reference's Decode: number, told.
-/
import Derived.Test.YtooieocfgifpgaaLpS
import Derived.Test.YtooieocfgifpgaaMade
import Derived.Deep.DeepCutAuto
namespace Go.Proofs.Ytooieocfgifpgaa
open Go.RowKit Go.WideShapes Go.ChangeShapes
set_option linter.unusedVariables false

/-- Bytes at an address. -/
def BytesAt (w : World) (b o : Nat) (l : List UInt8) : Prop := ∀ i, (hi : i < l.length) → w.cell? ⟨b, o + i, none⟩ = some (.int .u8 (l[i].toNat : Int))
theorem BytesAt.below {w w' : World} {base b o : Nat} {l : List UInt8} (h : BytesAt w b o l) (hb : Below base w w') (hl : b < base) : BytesAt w' b o l := fun i hi => (hb.cell (by exact hl)).trans (h i hi)
theorem BytesAt.frm {w w' : World} {b o g : Nat} {l : List UInt8} (h : BytesAt w b o l) (hf : Frm w w' g) (hl : b ≠ g) : BytesAt w' b o l := fun i hi => hf.cell (h i hi) hl
theorem BytesAt.drop {w : World} {b o : Nat} {l : List UInt8} (h : BytesAt w b o l) (k : Nat) : BytesAt w b (o + k) (l.drop k) := fun i hi => by
  have hi' : k + i < l.length := by rw [List.length_drop] at hi; omega
  rw [Nat.add_assoc, h (k + i) hi', List.getElem_drop]

set_option maxHeartbeats 4000000 in
theorem refNum_any (b o n cap : Nat) (x y : UInt8) (zs : List UInt8) (w : World) (hn : 2 ≤ n) (hc : BytesAt w b o (x :: y :: zs)) :
    Calls Try.prog 54 #[.slice (some ⟨b, o, none⟩) n cap] w fun e w' => e = .returned (.int .i64 (num2 x y)) ∧ Below w.heap.size w w' ∧ w'.heap = w.heap := by
  have c0 : w.cell? ⟨b, o, none⟩ = some (.int .u8 (x.toNat : Int)) := hc 0 (by simp)
  have c1 : w.cell? ⟨b, o + 1, none⟩ = some (.int .u8 (y.toNat : Int)) := hc 1 (by simp)
  have hx := x.toNat_lt; have hy := y.toNat_lt
  have h0 : (0 : Int) < (n : Int) := by omega
  have h1 : (1 : Int) < (n : Int) := by omega
  clear hc
  go_enter Try.func54, Try.ntmps54
  go_wp2_with fail
  go_quiet (fail)
  go_wp2_with fail
  go_ret
  exact ⟨rfl, below_dn (Below.refl _ _) _, rfl⟩

/-- What 18 bytes tell. -/
def told (s0 s1 m0 m1 m2 m3 m4 m5 k0 k1 p0 p1 q0 q1 st : UInt8) : Inf := ⟨num2 s0 s1, m0.toNat, m1.toNat, m2.toNat, m3.toNat, m4.toNat, m5.toNat, num2 k0 k1, num2 p0 p1, num2 q0 q1, st.toNat⟩
/-- The row with k bytes of the address. -/
def toldRow (x : Inf) (k : Nat) : Array Value := #[.int .i64 x.sp, .int .u8 (if 0 < k then x.m0 else 0), .int .u8 (if 1 < k then x.m1 else 0), .int .u8 (if 2 < k then x.m2 else 0), .int .u8 (if 3 < k then x.m3 else 0), .int .u8 (if 4 < k then x.m4 else 0), .int .u8 (if 5 < k then x.m5 else 0), .int .i64 x.key, .int .i64 x.pp, .int .i64 x.port, .int .i64 x.st]

set_option maxRecDepth 100000 in
set_option maxHeartbeats 8000000 in
theorem told_any (b o cap : Nat) (s0 s1 m0 m1 m2 m3 m4 m5 k0 k1 p0 p1 q0 q1 st : UInt8) (zs : List UInt8) (w : World) (hcap : 18 ≤ cap) (hb : b < w.heap.size)
    (hc : BytesAt w b o ([s0, s1, m0, m1, m2, m3, m4, m5, k0, k1, p0, p1, q0, q1, st] ++ zs)) :
    Calls Try.prog 53 #[.slice (some ⟨b, o, none⟩) 18 cap] w fun e w' => e = .returned ((fun x : Inf => (.agg #[.int .i64 x.sp, .int .u8 x.m0, .int .u8 x.m1, .int .u8 x.m2, .int .u8 x.m3, .int .u8 x.m4, .int .u8 x.m5, .int .i64 x.key, .int .i64 x.pp, .int .i64 x.port, .int .i64 x.st] : Value)) (told s0 s1 m0 m1 m2 m3 m4 m5 k0 k1 p0 p1 q0 q1 st)) ∧ Below w.heap.size w w' := by
  have hB1 := (Below.refl w.heap.size w).alloc (Nat.le_refl _) (.cells #[.int .i64 0, .int .u8 0, .int .u8 0, .int .u8 0, .int .u8 0, .int .u8 0, .int .u8 0, .int .i64 0, .int .i64 0, .int .i64 0, .int .i64 0] 25)
  have HC := hide (hc.below hB1 hb)
  have HZ := hide (heap_alloc_new w (.cells #[.int .i64 0, .int .u8 0, .int .u8 0, .int .u8 0, .int .u8 0, .int .u8 0, .int .u8 0, .int .i64 0, .int .i64 0, .int .i64 0, .int .i64 0] 25))
  have HB := hide hB1
  have i1 : (8 : Int) ≤ (cap : Int) := by omega
  have i2 : (10 : Int) ≤ (cap : Int) := by omega
  have i3 : (12 : Int) ≤ (cap : Int) := by omega
  have i4 : (18 : Int) ≤ (cap : Int) := by omega
  have n1 : ¬ cap = 8 := by omega
  have n2 : ¬ cap = 10 := by omega
  have n3 : ¬ cap = 12 := by omega
  have n4 : ¬ 8 = cap := by omega
  have n5 : ¬ 10 = cap := by omega
  have n6 : ¬ 12 = cap := by omega
  obtain ⟨w1, hw1⟩ : ∃ u, u = w.alloc (.cells #[.int .i64 0, .int .u8 0, .int .u8 0, .int .u8 0, .int .u8 0, .int .u8 0, .int .u8 0, .int .i64 0, .int .i64 0, .int .i64 0, .int .i64 0] 25) := ⟨_, rfl⟩
  have hbl : b < w1.heap.size := by rw [hw1]; simp; omega
  have HW1 := hide hw1
  rw [← hw1] at HC HZ HB
  have c14 : w1.cell? ⟨b, o + 14, none⟩ = some (.int .u8 (st.toNat : Int)) := HC.out 14 (by simp)
  have hst := st.toNat_lt
  clear hc hB1 hw1
  go_enter Try.func53, Try.ntmps53
  go_wp2_with fail
  rw [← HW1.out]
  obtain ⟨x, hx⟩ : ∃ x : Inf, x = told s0 s1 m0 m1 m2 m3 m4 m5 k0 k1 p0 p1 q0 q1 st := ⟨_, rfl⟩
  have hwr : IntKind.i64.wrap (st.toNat : Int) = (st.toNat : Int) := by rw [IntKind.wrap_i64]; omega
  obtain ⟨row, hrow⟩ : ∃ r : Array Value, r = #[.int .i64 (num2 s0 s1), .int .u8 0, .int .u8 0, .int .u8 0, .int .u8 0, .int .u8 0, .int .u8 0, .int .i64 (num2 k0 k1), .int .i64 (num2 p0 p1), .int .i64 (num2 q0 q1), .int .i64 (st.toNat : Int)] := ⟨_, rfl⟩
  go_cut [3] (fun v wx => ∃ g, v = .pointer (some ⟨g, 0, none⟩) ∧ w1.heap.size ≤ g ∧ wx.heap[g]? = some (.cells row 25 (0, 0)) ∧ Below w1.heap.size w1 wx)
  case first =>
    refine wp_region_made 16 (.cells #[.int .i64 0, .int .u8 0, .int .u8 0, .int .u8 0, .int .u8 0, .int .u8 0, .int .u8 0, .int .i64 0, .int .i64 0, .int .i64 0, .int .i64 0] 25) (by kernel_rfl) (by kernel_rfl) _ rfl (fun a u hu => by go_simp) (fun v hv => ?_)
    have hN := above_some v
    have hAb : ∀ u : Above v, Below w1.heap.size w1 u.w := fun u => by obtain ⟨u, hu⟩ := u; subst hv; exact ⟨hu.os, hu.tape, hu.output, hu.size, hu.block⟩
    have KC : ∀ u : Above v, BytesAt u.w b o _ := fun u => HC.out.below (hAb u) hbl
    have K14 : ∀ u : Above v, u.w.cell? ⟨b, o + 14, none⟩ = some (.int .u8 (st.toNat : Int)) := fun u => (KC u) 14 (by simp)
    have HN1 := hide (fun u : Above v => (refNum_any b o 18 cap s0 s1 _ u.w (by omega) (KC u)).mono (fun e v (h : _ ∧ _ ∧ _) => (⟨h.1, h.2.1⟩ : e = .returned (.int .i64 (num2 s0 s1)) ∧ Below u.w.heap.size u.w v)))
    have HN2 := hide (fun u : Above v => (refNum_any b (o + 8) 10 (cap - 8) k0 k1 _ u.w (by omega) ((KC u).drop 8)).mono (fun e v (h : _ ∧ _ ∧ _) => (⟨h.1, h.2.1⟩ : e = .returned (.int .i64 (num2 k0 k1)) ∧ Below u.w.heap.size u.w v)))
    have HN3 := hide (fun u : Above v => (refNum_any b (o + 10) 8 (cap - 10) p0 p1 _ u.w (by omega) ((KC u).drop 10)).mono (fun e v (h : _ ∧ _ ∧ _) => (⟨h.1, h.2.1⟩ : e = .returned (.int .i64 (num2 p0 p1)) ∧ Below u.w.heap.size u.w v)))
    have HN4 := hide (fun u : Above v => (refNum_any b (o + 12) 6 (cap - 12) q0 q1 _ u.w (by omega) ((KC u).drop 12)).mono (fun e v (h : _ ∧ _ ∧ _) => (⟨h.1, h.2.1⟩ : e = .returned (.int .i64 (num2 q0 q1)) ∧ Below u.w.heap.size u.w v)))
    clear hAb KC
    repeat (refine wpRise_step (fun K hK => ?_); simp only [Oper.rise]; go_simp; first | (refine hK _ ?_; clear hK K) | (apply Exists.intro; refine ⟨fun u => ?_, hK _ ?_⟩; (go_at_call 54; first | with_reducible exact HN1.out u | with_reducible exact HN2.out u | with_reducible exact HN3.out u | with_reducible exact HN4.out u); clear hK K))
    refine wpRise_nil ?_
    clear HN1 HN2 HN3 HN4 K14 hN
    intro g u hu hg hr
    have HU := hide hu
    clear hu hv v
    simp only [Act.put, List.setIfInBounds_toArray, List.set_cons_succ, List.set_cons_zero, Nat.reduceAdd, List.drop_succ_cons, List.drop_zero, List.getElem_toArray, List.getElem_cons_succ, List.getElem_cons_zero]
    refine wpList_store_at rfl rfl g 0 row (by exact rfl) (by rw [hrow]; exact rfl) 25 hr (by rw [hrow]; kernel_rfl) (by rw [hrow]; simp) (by rw [hrow]; simp [Value.oneCell']) row (by rw [hrow]; rfl) (fun u2 hf2 hb2 => ?_)
    have HC2 := hide (show ∃ g, Value.pointer (some ⟨g, 0, none⟩) = .pointer (some ⟨g, 0, none⟩) from ⟨g, rfl⟩)
    have HB2 := hide hb2; have HU2 := hide (HU.out.trans (hf2.below hg HU.out.size))
    clear hb2 hf2 hr
    simp only [Act.put]
    go_wp2_with fail
    go_meet
    exact ⟨g, rfl, hg, HB2.out, HU2.out⟩
  case rest =>
    obtain ⟨g, rfl, hg, hrg, hbc⟩ := hcut
    have HR := hide (show wc.heap[g]? = some (.cells (toldRow x 0) 25 (0, 0)) by rw [hrg, hrow, hx]; rfl)
    have HBC := hide hbc
    have HX := hide hx
    clear hrow hrg hbc hx
    go_wp2_with fail
    go_loopw [4] (fun i wr => ∃ k : Nat, k ≤ 6 ∧ i = .int .i64 k ∧ wr.heap[g]? = some (.cells (toldRow x k) 25 (0, 0)) ∧ Below w1.heap.size w1 wr) (fun i _ => 6 - (intOf i).toNat)
    case atStart => exact ⟨0, by omega, rfl, HR.out, HBC.out⟩
    case round =>
      obtain ⟨k, hk, rfl, hrow, hbel⟩ := hrel
      have HRw := hide hrow; have HBe := hide hbel
      by_cases hlt : k < 6
      · obtain ⟨y, hy⟩ : ∃ y : UInt8, [m0, m1, m2, m3, m4, m5][k]? = some y := ⟨_, List.getElem?_eq_getElem (by simp only [List.length_cons, List.length_nil]; omega)⟩
        have hc : wr.cell? ⟨b, o + (2 + k), none⟩ = some (.int .u8 (y.toNat : Int)) := by
          have h := (HC.out.below hbel hbl) (2 + k) (by simp; omega)
          rw [h]
          have e : ([s0, s1, m0, m1, m2, m3, m4, m5, k0, k1, p0, p1, q0, q1, st] ++ zs)[2 + k]? = some y := by
            rcases k with _ | _ | _ | _ | _ | _ | k
            all_goals first | (simp only [List.getElem?_cons_succ, List.getElem?_cons_zero] at hy; exact hy) | omega
          rw [List.getElem?_eq_getElem (by simp; omega)] at e
          injection e with e
          rw [e]
        have hz : wr.frozen? ⟨g, 1 + k, none⟩ = false := frozen_of_row wr g (1 + k) _ 25 hrow
        have hc1 : wr.cell? ⟨g, 1 + k, none⟩ = some (.int .u8 0) := by
          rw [cell_of_row wr g (1 + k) _ 25 (0, 0) hrow]
          rcases k with _ | _ | _ | _ | _ | _ | k
          all_goals first | rfl | omega
        have HN := hide (show (toldRow x k).setIfInBounds (1 + k) (.int .u8 (y.toNat : Int)) = toldRow x (k + 1) by
          rw [HX.out]
          rcases k with _ | _ | _ | _ | _ | _ | k
          all_goals first | (simp at hy; subst hy; rfl) | omega)
        have hk0 : (0 : Int) ≤ (k : Int) := by omega
        have hk1 : (k : Int) < 6 := by omega
        have hk2 : (2 : Int) + (k : Int) < 18 := by omega
        have hk3 : (0 : Int) ≤ 2 + (k : Int) := by omega
        clear hrow hbel hy
        go_wp2_with fail
        go_roundw
        case rel => exact ⟨k + 1, by omega, by go_num, by rw [← HN.out]; exact heap_setCell_same wr g (1 + k) _ 25 _ HRw.out, HBe.out.setCell (p := ⟨g, 1 + k, none⟩) hg _⟩
        case measure => simp [intOf]; omega
      · obtain rfl : k = 6 := by omega
        have HRx := hide (show wr.heap[g]? = some (.cells #[.int .i64 x.sp, .int .u8 x.m0, .int .u8 x.m1, .int .u8 x.m2, .int .u8 x.m3, .int .u8 x.m4, .int .u8 x.m5, .int .i64 x.key, .int .i64 x.pp, .int .i64 x.port, .int .i64 x.st] 25 (0, 0)) from hrow)
        clear hrow
        have HZw := hide (show wr.heap[w.heap.size]? = some (.cells #[.int .i64 0, .int .u8 0, .int .u8 0, .int .u8 0, .int .u8 0, .int .u8 0, .int .u8 0, .int .i64 0, .int .i64 0, .int .i64 0, .int .i64 0] 25 (0, 0)) from (HBe.out.block w.heap.size (by rw [HW1.out]; simp)).trans HZ.out)
        have hsz1 : w1.heap.size = w.heap.size + 1 := by rw [HW1.out]; simp
        have hwg : w.heap.size < g := by omega
        have hwr : w.heap.size < wr.heap.size := by have := HBe.out.size; omega
        clear hsz1
        go_wp2_with (first | (refine wpList_load_part rfl 25 (.tmp 3) rfl g 0 rfl 25 _ #[.int .i64 x.sp, .int .u8 x.m0, .int .u8 x.m1, .int .u8 x.m2, .int .u8 x.m3, .int .u8 x.m4, .int .u8 x.m5, .int .i64 x.key, .int .i64 x.pp, .int .i64 x.port, .int .i64 x.st] (0, 0) _ HRx.out Try.underlying25 rfl (by kernel_rfl) rfl ?_) | (refine wpList_store_at rfl rfl w.heap.size 0 #[.int .i64 x.sp, .int .u8 x.m0, .int .u8 x.m1, .int .u8 x.m2, .int .u8 x.m3, .int .u8 x.m4, .int .u8 x.m5, .int .i64 x.key, .int .i64 x.pp, .int .i64 x.port, .int .i64 x.st] rfl rfl 25 HZw.out (by kernel_rfl) (by simp) (inf_ones x) #[.int .i64 x.sp, .int .u8 x.m0, .int .u8 x.m1, .int .u8 x.m2, .int .u8 x.m3, .int .u8 x.m4, .int .u8 x.m5, .int .i64 x.key, .int .i64 x.pp, .int .i64 x.port, .int .i64 x.st] rfl ?_; intro u15 hf15 hb15; have HB15 := hide hb15; have HF15 := hide hf15; clear hf15 hb15))
        (try simp only [Exit.inBlock, Exit.then])
        refine bodyPost_ret (res_inf rfl _ _ w.heap.size x rfl HB15.out) rfl ⟨by rw [HX.out], (HB.out.trans (HBe.out.mono (by rw [HW1.out]; simp))).trans (HF15.out.below (Nat.le_refl _) (by omega))⟩
end Go.Proofs.Ytooieocfgifpgaa

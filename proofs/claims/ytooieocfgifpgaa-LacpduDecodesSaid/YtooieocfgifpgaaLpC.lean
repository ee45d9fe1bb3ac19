/-
  May one be? The program's answer and the reference's.
-/
import Derived.Test.YtooieocfgifpgaaLpB
namespace Go.Proofs.Ytooieocfgifpgaa
open Go.RowKit Go.WideShapes Go.ChangeShapes
set_option linter.unusedVariables false

theorem all_snoc {most : Int} {ns : List Int} {k : Nat} (hk : k < ns.length) (h : (ns.take k).all (inW most) = true) (hx : inW most ns[k] = true) : (ns.take (k + 1)).all (inW most) = true := by
  rw [List.take_succ_eq_append_getElem hk, List.all_append, h]
  simp [hx]
theorem all_no {most : Int} {ns : List Int} {k : Nat} (hk : k < ns.length) (hx : inW most ns[k] = false) : ns.all (inW most) = false := by
  rw [List.all_eq_false]
  exact ⟨ns[k], List.getElem_mem hk, by simp [hx]⟩

theorem within_any (most : Int) (g n cap : Nat) (ns : List Int) (w : World) (hn : ns.length = n) (hs : n ≤ 100) (hg : w.heap[g]? = some (.cells (ns.map (Value.int .i64)).toArray 3 (0, 0))) :
    Calls Try.prog 43 #[.int .i64 most, .slice (some ⟨g, 0, none⟩) n cap] w fun e w' => e = .returned (.bool (ns.all (inW most))) ∧ w = w' := by
  have HN := hide hn; have HG := hide hg
  clear hn hg
  go_enter Try.func43, Try.ntmps43
  go_wp2
  go_loop [9] (fun i => ∃ k : Nat, k ≤ n ∧ i = .int .i64 k ∧ Hid ((ns.take k).all (inW most) = true)) (fun i => n - (intOf i).toNat)
  case atStart => exact ⟨0, by omega, rfl, hide rfl⟩
  case round =>
    obtain ⟨k, hk, rfl, HA⟩ := hrel
    by_cases hlt : k < n
    · have hkl : k < ns.length := by have := HN.out; omega
      obtain ⟨x, hx⟩ : ∃ x, x = ns[k] := ⟨_, rfl⟩
      have hc : w.cell? ⟨g, k, none⟩ = some (.int .i64 x) := by
        rw [cell_of_row w g k _ 3 (0, 0) HG.out, hx]
        simp [List.getElem?_eq_getElem hkl]
      have HX := hide hx
      have hk0 : (0 : Int) ≤ (k : Int) := by omega
      have hk1 : (k : Int) < (n : Int) := by omega
      clear hx
      rcases (show x < 0 ∨ (0 ≤ x ∧ most < x) ∨ (0 ≤ x ∧ x ≤ most) by omega) with h | h | h
      · have HF := hide (all_no (most := most) hkl (by rw [← HX.out]; simp [inW]; omega))
        clear HX hkl
        go_wp2
        go_ret
        exact ⟨by rw [HF.out]; first | rfl | (show Ending.returned (Value.bool (decide (x ≤ most))) = _; rw [decide_eq_false (by omega)]), rfl⟩
      · have HF := hide (all_no (most := most) hkl (by rw [← HX.out]; simp [inW]; omega))
        obtain ⟨h, h'⟩ := h
        clear HX hkl
        go_wp2
        go_ret
        exact ⟨by rw [HF.out]; first | rfl | (show Ending.returned (Value.bool (decide (x ≤ most))) = _; rw [decide_eq_false (by omega)]), rfl⟩
      · have HF := hide (all_snoc hkl HA.out (by rw [← HX.out]; simp [inW]; omega))
        obtain ⟨h, h'⟩ := h
        clear HX hkl
        go_wp2
        go_round
        case rel => exact ⟨k + 1, by omega, by go_num, HF⟩
        case measure => simp [intOf]; omega
    · obtain rfl : k = n := by omega
      go_wp2
      go_ret
      have h := HA.out
      rw [List.take_of_length_le (by have := HN.out; omega)] at h
      exact ⟨by rw [h]; rfl, rfl⟩

theorem refWithin_any (most x : Int) (w : World) : Calls Try.prog 45 #[.int .i64 x, .int .i64 most] w fun e w' => e = .returned (.bool (inW most x)) ∧ w = w' := by
  rcases (show x < 0 ∨ (0 ≤ x ∧ most < x) ∨ (0 ≤ x ∧ x ≤ most) by omega) with h | ⟨h, h'⟩ | ⟨h, h'⟩
  · have HF := hide (show inW most x = false by simp [inW]; omega)
    go_enter Try.func45, Try.ntmps45
    go_wp2
    go_ret
    exact ⟨by rw [HF.out]; first | rfl | (show Ending.returned (Value.bool (decide (x ≤ most))) = _; rw [decide_eq_false (by omega)]), rfl⟩
  · have HF := hide (show inW most x = false by simp [inW]; omega)
    go_enter Try.func45, Try.ntmps45
    go_wp2
    go_ret
    exact ⟨by rw [HF.out]; first | rfl | (show Ending.returned (Value.bool (decide (x ≤ most))) = _; rw [decide_eq_false (by omega)]), rfl⟩
  · have HF := hide (show inW most x = true by simp [inW]; omega)
    go_enter Try.func45, Try.ntmps45
    go_wp2
    go_ret
    exact ⟨by rw [HF.out]; first | rfl | (show Ending.returned (Value.bool (decide (x ≤ most))) = _; rw [decide_eq_false (by omega)]), rfl⟩

theorem info_any (x : Inf) (w : World) : Calls Try.prog 42 #[.agg #[.int .i64 x.sp, .int .u8 x.m0, .int .u8 x.m1, .int .u8 x.m2, .int .u8 x.m3, .int .u8 x.m4, .int .u8 x.m5, .int .i64 x.key, .int .i64 x.pp, .int .i64 x.port, .int .i64 x.st]] w fun e w' => e = .returned (.bool x.ok) ∧ Below w.heap.size w w' := by
  have h4 : [x.sp, x.key, x.pp, x.port].all (inW 65535) = (inW 65535 x.sp && inW 65535 x.key && inW 65535 x.pp && inW 65535 x.port) := by simp [Bool.and_assoc]
  have h1 : [x.st].all (inW 255) = inW 255 x.st := by simp
  have ho : x.ok = ((inW 65535 x.sp && inW 65535 x.key && inW 65535 x.pp && inW 65535 x.port) && inW 255 x.st) := rfl
  generalize (inW 65535 x.sp && inW 65535 x.key && inW 65535 x.pp && inW 65535 x.port) = b4 at h4 ho
  generalize inW 255 x.st = b1 at h1 ho
  have H4 := hide h4; have H1 := hide h1; have HO := hide ho
  clear h4 h1 ho
  go_enter Try.func42, Try.ntmps42
  go_wp2_with fail
  refine (within_any 65535 (w.heap.size + 1) 4 4 [x.sp, x.key, x.pp, x.port] _ rfl (by omega) ?_).mono ?_
  · have := heap_alloc_new (w.alloc (.cells #[.int .i64 x.sp, .int .u8 x.m0, .int .u8 x.m1, .int .u8 x.m2, .int .u8 x.m3, .int .u8 x.m4, .int .u8 x.m5, .int .i64 x.key, .int .i64 x.pp, .int .i64 x.port, .int .i64 x.st] 25)) (.cells #[.int .i64 x.sp, .int .i64 x.key, .int .i64 x.pp, .int .i64 x.port] 3)
    simpa using this
  rintro e w1 ⟨rfl, rfl⟩
  rw [H4.out]
  cases b4
  · go_wp2_with fail
    go_ret
    exact ⟨by rw [HO.out]; rfl, ((Below.refl _ _).alloc (Nat.le_refl _) _).alloc (by simp) _⟩
  · go_wp2_with fail
    refine (within_any 255 (w.heap.size + 2) 1 1 [x.st] _ rfl (by omega) ?_).mono ?_
    · have := heap_alloc_new ((w.alloc (.cells #[.int .i64 x.sp, .int .u8 x.m0, .int .u8 x.m1, .int .u8 x.m2, .int .u8 x.m3, .int .u8 x.m4, .int .u8 x.m5, .int .i64 x.key, .int .i64 x.pp, .int .i64 x.port, .int .i64 x.st] 25)).alloc (.cells #[.int .i64 x.sp, .int .i64 x.key, .int .i64 x.pp, .int .i64 x.port] 3)) (.cells #[.int .i64 x.st] 3)
      simpa using this
    rintro e w1 ⟨rfl, rfl⟩
    rw [H1.out]
    go_wp2_with fail
    go_ret
    exact ⟨by rw [HO.out]; simp, (((Below.refl _ _).alloc (Nat.le_refl _) _).alloc (by simp) _).alloc (by simp; omega) _⟩

theorem refInfo_any (x : Inf) (w : World) : Calls Try.prog 44 #[.agg #[.int .i64 x.sp, .int .u8 x.m0, .int .u8 x.m1, .int .u8 x.m2, .int .u8 x.m3, .int .u8 x.m4, .int .u8 x.m5, .int .i64 x.key, .int .i64 x.pp, .int .i64 x.port, .int .i64 x.st]] w fun e w' => e = .returned (.bool x.ok) ∧ Below w.heap.size w w' := by
  have ho : x.ok = (inW 65535 x.sp && inW 65535 x.key && inW 65535 x.pp && inW 65535 x.port && inW 255 x.st) := rfl
  obtain ⟨b1, H1⟩ : ∃ b, Hid (inW 65535 x.sp = b) := ⟨_, hide rfl⟩
  obtain ⟨b2, H2⟩ : ∃ b, Hid (inW 65535 x.key = b) := ⟨_, hide rfl⟩
  obtain ⟨b3, H3⟩ : ∃ b, Hid (inW 65535 x.pp = b) := ⟨_, hide rfl⟩
  obtain ⟨b4, H4⟩ : ∃ b, Hid (inW 65535 x.port = b) := ⟨_, hide rfl⟩
  obtain ⟨b5, H5⟩ : ∃ b, Hid (inW 255 x.st = b) := ⟨_, hide rfl⟩
  rw [H1.out, H2.out, H3.out, H4.out, H5.out] at ho
  have HO := hide ho
  clear ho
  go_enter Try.func44, Try.ntmps44
  go_wp2_with fail
  refine (refWithin_any 65535 x.sp _).mono ?_
  rintro e w1 ⟨rfl, rfl⟩
  rw [H1.out]
  cases b1
  · go_wp2_with fail
    go_ret
    exact ⟨by rw [HO.out]; rfl, (Below.refl _ _).alloc (Nat.le_refl _) _⟩
  go_wp2_with fail
  refine (refWithin_any 65535 x.key _).mono ?_
  rintro e w1 ⟨rfl, rfl⟩
  rw [H2.out]
  cases b2
  · go_wp2_with fail
    go_ret
    exact ⟨by rw [HO.out]; rfl, (Below.refl _ _).alloc (Nat.le_refl _) _⟩
  go_wp2_with fail
  refine (refWithin_any 65535 x.pp _).mono ?_
  rintro e w1 ⟨rfl, rfl⟩
  rw [H3.out]
  cases b3
  · go_wp2_with fail
    go_ret
    exact ⟨by rw [HO.out]; rfl, (Below.refl _ _).alloc (Nat.le_refl _) _⟩
  go_wp2_with fail
  refine (refWithin_any 65535 x.port _).mono ?_
  rintro e w1 ⟨rfl, rfl⟩
  rw [H4.out]
  cases b4
  · go_wp2_with fail
    go_ret
    exact ⟨by rw [HO.out]; rfl, (Below.refl _ _).alloc (Nat.le_refl _) _⟩
  go_wp2_with fail
  refine (refWithin_any 255 x.st _).mono ?_
  rintro e w1 ⟨rfl, rfl⟩
  rw [H5.out]
  go_wp2_with fail
  go_ret
  exact ⟨by rw [HO.out]; simp, (Below.refl _ _).alloc (Nat.le_refl _) _⟩

theorem right_any (a p : Inf) (d : Int) (w : World) : Calls Try.prog 17 #[.agg #[.int .i64 a.sp, .int .u8 a.m0, .int .u8 a.m1, .int .u8 a.m2, .int .u8 a.m3, .int .u8 a.m4, .int .u8 a.m5, .int .i64 a.key, .int .i64 a.pp, .int .i64 a.port, .int .i64 a.st, .int .i64 p.sp, .int .u8 p.m0, .int .u8 p.m1, .int .u8 p.m2, .int .u8 p.m3, .int .u8 p.m4, .int .u8 p.m5, .int .i64 p.key, .int .i64 p.pp, .int .i64 p.port, .int .i64 p.st, .int .i64 d]] w fun e w' => e = .returned (.bool (okL a p d)) ∧ Below w.heap.size w w' := by
  have ho : okL a p d = (a.ok && p.ok && inW 65535 d) := rfl
  obtain ⟨b1, H1⟩ : ∃ b, Hid (a.ok = b) := ⟨_, hide rfl⟩
  obtain ⟨b2, H2⟩ : ∃ b, Hid (p.ok = b) := ⟨_, hide rfl⟩
  obtain ⟨b3, H3⟩ : ∃ b, Hid (inW 65535 d = b) := ⟨_, hide rfl⟩
  rw [H1.out, H2.out, H3.out] at ho
  have HO := hide ho
  clear ho
  go_enter Try.func17, Try.ntmps17
  go_wp2_with fail
  refine (info_any a _).mono ?_
  rintro e w1 ⟨rfl, hb1⟩
  rw [H1.out]
  have HB1 := hide (((Below.refl w.heap.size w).alloc (Nat.le_refl _) (.cells #[.int .i64 a.sp, .int .u8 a.m0, .int .u8 a.m1, .int .u8 a.m2, .int .u8 a.m3, .int .u8 a.m4, .int .u8 a.m5, .int .i64 a.key, .int .i64 a.pp, .int .i64 a.port, .int .i64 a.st, .int .i64 p.sp, .int .u8 p.m0, .int .u8 p.m1, .int .u8 p.m2, .int .u8 p.m3, .int .u8 p.m4, .int .u8 p.m5, .int .i64 p.key, .int .i64 p.pp, .int .i64 p.port, .int .i64 p.st, .int .i64 d] 27)).trans (hb1.mono (by simp)))
  cases b1
  · clear hb1
    go_wp2_with fail
    go_ret
    exact ⟨by rw [HO.out]; rfl, HB1.out⟩
  have hbk := hb1.block w.heap.size (by simp)
  rw [heap_alloc_new] at hbk
  have HK := hide hbk
  have hsz := hb1.size
  simp at hsz
  have hc := fun i => cell_of_row w1 w.heap.size i _ 27 (0, 0) hbk
  have c11 := hc 11; have c12 := hc 12; have c13 := hc 13; have c14 := hc 14; have c15 := hc 15; have c16 := hc 16; have c17 := hc 17; have c18 := hc 18; have c19 := hc 19; have c20 := hc 20; have c21 := hc 21; have c22 := hc 22
  simp at c11 c12 c13 c14 c15 c16 c17 c18 c19 c20 c21 c22
  clear hb1 hbk hc
  go_wp2_with fail
  refine (info_any p _).mono ?_
  rintro e w2 ⟨rfl, hb2⟩
  rw [H2.out]
  have HB2 := hide (HB1.out.trans (hb2.mono (by omega)))
  have d22 : w2.cell? ⟨w.heap.size, 22, none⟩ = some (.int .i64 d) := (hb2.cell (by show w.heap.size < w1.heap.size; omega)).trans c22
  clear hb2 c11 c12 c13 c14 c15 c16 c17 c18 c19 c20 c21 c22
  cases b2
  · go_wp2_with fail
    go_ret
    exact ⟨by rw [HO.out]; rfl, HB2.out⟩
  go_wp2_with fail
  refine (within_any 65535 w2.heap.size 1 1 [d] _ rfl (by omega) ?_).mono ?_
  · have := heap_alloc_new w2 (.cells #[.int .i64 d] 3)
    simpa using this
  rintro e w3 ⟨rfl, rfl⟩
  rw [show [d].all (inW 65535) = inW 65535 d by simp, H3.out]
  go_wp2_with fail
  go_ret
  exact ⟨by rw [HO.out]; simp, HB2.out.alloc HB2.out.size _⟩

theorem refRight_any (a p : Inf) (d : Int) (w : World) : Calls Try.prog 18 #[.agg #[.int .i64 a.sp, .int .u8 a.m0, .int .u8 a.m1, .int .u8 a.m2, .int .u8 a.m3, .int .u8 a.m4, .int .u8 a.m5, .int .i64 a.key, .int .i64 a.pp, .int .i64 a.port, .int .i64 a.st, .int .i64 p.sp, .int .u8 p.m0, .int .u8 p.m1, .int .u8 p.m2, .int .u8 p.m3, .int .u8 p.m4, .int .u8 p.m5, .int .i64 p.key, .int .i64 p.pp, .int .i64 p.port, .int .i64 p.st, .int .i64 d]] w fun e w' => e = .returned (.bool (okL a p d)) ∧ Below w.heap.size w w' := by
  have ho : okL a p d = (a.ok && p.ok && inW 65535 d) := rfl
  obtain ⟨b1, H1⟩ : ∃ b, Hid (a.ok = b) := ⟨_, hide rfl⟩
  obtain ⟨b2, H2⟩ : ∃ b, Hid (p.ok = b) := ⟨_, hide rfl⟩
  obtain ⟨b3, H3⟩ : ∃ b, Hid (inW 65535 d = b) := ⟨_, hide rfl⟩
  rw [H1.out, H2.out, H3.out] at ho
  have HO := hide ho
  clear ho
  go_enter Try.func18, Try.ntmps18
  go_wp2_with fail
  refine (refInfo_any a _).mono ?_
  rintro e w1 ⟨rfl, hb1⟩
  rw [H1.out]
  have HB1 := hide (((Below.refl w.heap.size w).alloc (Nat.le_refl _) (.cells #[.int .i64 a.sp, .int .u8 a.m0, .int .u8 a.m1, .int .u8 a.m2, .int .u8 a.m3, .int .u8 a.m4, .int .u8 a.m5, .int .i64 a.key, .int .i64 a.pp, .int .i64 a.port, .int .i64 a.st, .int .i64 p.sp, .int .u8 p.m0, .int .u8 p.m1, .int .u8 p.m2, .int .u8 p.m3, .int .u8 p.m4, .int .u8 p.m5, .int .i64 p.key, .int .i64 p.pp, .int .i64 p.port, .int .i64 p.st, .int .i64 d] 27)).trans (hb1.mono (by simp)))
  cases b1
  · clear hb1
    go_wp2_with fail
    go_ret
    exact ⟨by rw [HO.out]; rfl, HB1.out⟩
  have hbk := hb1.block w.heap.size (by simp)
  rw [heap_alloc_new] at hbk
  have hsz := hb1.size
  simp at hsz
  have hc := fun i => cell_of_row w1 w.heap.size i _ 27 (0, 0) hbk
  have c11 := hc 11; have c12 := hc 12; have c13 := hc 13; have c14 := hc 14; have c15 := hc 15; have c16 := hc 16; have c17 := hc 17; have c18 := hc 18; have c19 := hc 19; have c20 := hc 20; have c21 := hc 21; have c22 := hc 22
  simp at c11 c12 c13 c14 c15 c16 c17 c18 c19 c20 c21 c22
  clear hb1 hbk hc
  go_wp2_with fail
  refine (refInfo_any p _).mono ?_
  rintro e w2 ⟨rfl, hb2⟩
  rw [H2.out]
  have HB2 := hide (HB1.out.trans (hb2.mono (by omega)))
  have d22 : w2.cell? ⟨w.heap.size, 22, none⟩ = some (.int .i64 d) := (hb2.cell (by show w.heap.size < w1.heap.size; omega)).trans c22
  clear hb2 c11 c12 c13 c14 c15 c16 c17 c18 c19 c20 c21 c22
  cases b2
  · go_wp2_with fail
    go_ret
    exact ⟨by rw [HO.out]; rfl, HB2.out⟩
  go_wp2_with fail
  refine (refWithin_any 65535 d _).mono ?_
  rintro e w3 ⟨rfl, rfl⟩
  rw [H3.out]
  go_wp2_with fail
  go_ret
  exact ⟨by rw [HO.out]; simp, HB2.out⟩
end Go.Proofs.Ytooieocfgifpgaa

/-
  Proved: LaneOwn: what is on the way is apart from what was handed in; a lane that was cut and healed takes as much as a new one; the law answers true.
  No condition.
-/
import Derived.Test.YtekljcgljoianaaLaneN
namespace Go.Proofs.Ytekljcgljoianaa
open Go.RowKit Go.ChangeShapes Go.WideShapes Go.ChangeAt
set_option linter.unusedVariables false

/-- A slice of bytes that came in. -/
theorem open_lrow {H : Type} {enc : TypeId × Value → H} {w : World} {r : Reach} {base : Nat} {v : Value} {d : DataW H} {ps : List MemPlace} (hv : Value.okWide Try.prog w r base 29 v)
    (hT : DataW.Trod enc Try.prog w 0 (fun _ => true) true 29 v d ps) : ∃ A n cap b, v = .slice A n cap ∧ RowAt w (From w.heap.size) (.slice A n cap) b := by
  obtain ⟨fuel, hT⟩ := hT
  obtain ⟨A, n, cap, rfl⟩ := okWide_slice Try.underlying29 hv
  obtain ⟨b, hrow, _⟩ := open_row (show DataW.trod enc Try.prog w 0 (fun _ => true) true fuel 29 [.slice A n cap] = some (d, ps) from hT)
  exact ⟨A, n, cap, b, rfl, hrow⟩

theorem below_of_row {w w' : World} {g B : Nat} (h : w.grownBy w' (some g)) (hB : B ≤ g) (hs : B ≤ w.heap.size) : Below B w w' :=
  ⟨h.os, h.tape, h.output, h.size, fun k hk => h.block k (by omega) (by intro e; injection e with e; omega)⟩

set_option maxRecDepth 100000 in
set_option maxHeartbeats 8000000 in
theorem laneOwn_any (room : Int) (A : Option Addr) (n cap : Nat) (b : List UInt8) (w : World) (hr : -9223372036854775808 ≤ room ∧ room ≤ 9223372036854775807) (hl : RowAt w (From w.heap.size) (.slice A n cap) b) :
    Calls Try.prog 5 #[.int .i64 room, .slice A n cap] w fun e w' => e = .returned (.bool true) ∧ Below w.heap.size w w' := by
  have hn63 := hl.src.2.1
  have HL := hide hl; clear hl
  obtain ⟨i5, hi5, hy0, hy1, hy2⟩ := info_parts info5
  go_enter Try.func5, Try.ntmps5
  go_wp2_with fail
  refine (awake_any _).mono ?_
  rintro e w1 ⟨rfl, hb1⟩
  have hs1 := hb1.size
  go_wp2_with fail
  refine (laneNew_any (YL (w1.heap.size + 1) w1.heap.size) room w1).mono ?_
  rintro e w2 (⟨r1, r2, r, rfl, rfl, hb2, hz2, hl2⟩ | ⟨hbad, rfl, rfl⟩)
  rotate_left
  · go_wp2_with fail
    go_ret
    exact ⟨rfl, hb1⟩
  have HZ2 := hide (show w1.heap.size + 2 ≤ w2.heap.size by omega); clear hz2
  have HL2 := hide hl2
  have hbw2 := hide (hb1.trans (hb2.mono hs1))
  clear hl2 hb1 hb2
  generalize hg : w1.heap.size + 1 = g at *
  generalize hrg : w1.heap.size = rg at *
  have hwg : w.heap.size ≤ g := by omega
  have hwr : w.heap.size ≤ rg := by omega
  clear hg hrg
  have HXL := hide (show ∀ j, YL g rg j → w.heap.size ≤ j from fun j hj => by rcases hj with rfl | rfl; exact hwg; exact hwr)
  by_cases h60 : 60 < r
  · go_wp2_with fail
    go_ret
    exact ⟨rfl, hbw2.out⟩
  by_cases h500 : 500 < n
  · go_wp2_with fail
    go_ret
    exact ⟨rfl, hbw2.out⟩
  have HU1 := hide (own_empty w2 5 1)
  have HV1 := hide (HL.out.chg ((chg_from hbw2.out).alloc (.cells #[] 5)))
  obtain ⟨hn, -, hsrc⟩ := HV1.out.src
  have hnil := hide HV1.out.nil
  have HS2 := hide (show ∀ ad, A = some ad → ∀ j v, (bcells b)[j]? = some v → (w2.alloc (.cells #[] 5)).cell? (ad.add j) = some v from fun ad ha j v hv => by
    have hj := (List.getElem?_eq_some_iff.1 hv).1
    obtain ⟨ad', ha', h⟩ := hsrc (by omega)
    rw [ha] at ha'; injection ha' with ha'
    subst ha'
    exact h j v hv)
  have HLen := hide (show (bcells b).length = n * 1 by rw [bcells_length]; omega)
  have HN := hide hn
  clear hsrc hn
  go_wp2_with (at_builtin; go_loud (refine wpList_append_src rfl (.tmp 51) (.tmp 52) 29 rfl w2.heap.size 5 i5 (.int .u8 0) 1 1 Try.underlying29 hi5 hy0 hy1 hy2 rfl (by decide) _ 0 [] rfl HU1.out A n cap (bcells b) rfl hnil.out HLen.out HS2.out (bcells_one b) (by unfold maxLen; omega) (by omega) (by simp) ?_))
  intro v3 w3 hown3 hgr3
  try simp only [List.nil_append, Nat.zero_add] at hown3
  obtain ⟨Am, cm, rfl⟩ : ∃ Am cm, v3 = .slice Am n cm := by
    rcases hown3.2 with ⟨rfl, h0⟩ | ⟨_, cm, _, rfl, _⟩
    · exact ⟨none, 0, by rw [h0]⟩
    · exact ⟨_, cm, rfl⟩
  have hb3 : Below w2.heap.size w2 w3 := ((Below.refl w2.heap.size w2).alloc (Nat.le_refl _) _).grown hgr3 (by simp) (fun k hk => by have hk' : some w2.heap.size = some k := hk; injection hk' with hk'; omega)
  have hbw3 := hide (hbw2.out.trans (hb3.mono hbw2.out.size))
  have hob := own_block hown3
  have hsl := HL2.out.size
  have HL3 := hide ((HL2.out.reX (X' := XO g rg Am) (fun k hk => by
    rcases hk with h1 | h1 | ⟨a, ha, h1⟩
    · exact .inl (.inl h1)
    · exact .inl (.inr h1)
    · have := (hob a ha).1; exact .inr (by omega))).chg (Chg.below (X := XO g rg Am) hb3) (hb3.block _ hsl.1) (hb3.block _ hsl.2.1))
  have hs3 := hb3.size
  have HR3 := hide (RowAt.of_own (X := YL g rg) (v := .slice Am n cm) (b := b) (base := w2.heap.size) (by have := hown3; rw [HN.out] at this ⊢; exact this) (fun k hk => by rcases hk with rfl | rfl <;> omega) (by have := HN.out; omega))
  have HO3 := hide hown3
  have HOB := hide hob
  have hlt3 : ∀ k, XO g rg Am k → k < w3.heap.size := fun k hk => by
    rcases hk with rfl | rfl | ⟨a, ha, rfl⟩
    · omega
    · omega
    · exact (hob a ha).2
  have hf0 := LS.new_fine (n := r) (by omega) (by omega)
  have p1 : (LS.new r).put b = ⟨r, false, 1, 0, 0, [b]⟩ := by
    have : ¬ (0 : Nat) = r := by omega
    simp [LS.put, LS.new, this]
  have p2 : (LS.new r).putE = 0 := by
    have : ¬ (0 : Nat) = r := by omega
    simp [LS.putE, LS.new, this]
  have HP1 := hide p1; have HP2 := hide p2
  have HLT3 := hide hlt3
  clear hown3 hgr3 hb3 hob p1 p2 hlt3
  go_wp2_with fail
  refine (put_from (XO g rg Am) (YL g rg) (YL g rg) g rg (LS.new r) Am n cm b w3 (.inl rfl) (.inr rfl) HLT3.out hf0 (by show (0 : Int) < 1000000; decide) HL3.out HR3.out (by omega)).mono ?_
  rintro e w4 ⟨rfl, hc4, hl4⟩
  rw [HP1.out] at hl4
  rw [HP2.out]
  have HB4 := hide (hbw3.out.trans (hc4.toBelow (B := w.heap.size) HXL.out hbw3.out.size))
  have HO4 := hide (own_chg HO3.out hc4 (fun k hk => by rcases hk with rfl | rfl <;> omega))
  have HL4 := hide hl4
  have hw2 : w.heap.size ≤ w2.heap.size := hbw2.out.size
  have hgne : g < w2.heap.size ∧ rg < w2.heap.size := ⟨hsl.1, hsl.2.1⟩
  clear hc4 hl4 hf0
  go_wp2_with fail
  go_loopw [10] (fun i wr => ∃ (k : Nat) (xs : List Value), k ≤ n ∧ i = .int .i64 k ∧ Below w.heap.size w wr ∧ LaneAt wr (XO g rg Am) g rg ⟨r, false, 1, 0, 0, [b]⟩ ∧ wr.ownsRow w2.heap.size 5 1 (.slice Am n cm) n xs ∧ ∀ u ∈ xs, ∃ z : Int, u = .int .u8 z)
    (fun i _ => n - (intOf i).toNat)
  case atStart =>
    exact ⟨0, bcells b, by omega, rfl, HB4.out, HL4.out, HO4.out, fun u hu => by
      simp [bcells] at hu
      obtain ⟨c, _, rfl⟩ := hu
      exact ⟨_, rfl⟩⟩
  case round =>
    obtain ⟨k, xs, hk, rfl, hbel, hlane, hown, hxs⟩ := hrel
    have HLx := hide hlane; have HBx := hide hbel; have HOx := hide hown; have HXs := hide hxs
    clear hlane hbel hown hxs
    by_cases hlt : k < n
    · have hOx := HOx.out
      obtain ⟨pm, rfl, hpb, hps⟩ : ∃ pm, Am = some ⟨pm, 0, none⟩ ∧ w2.heap.size ≤ pm ∧ pm < wr.heap.size := by
        rcases hOx.2 with ⟨_, h0⟩ | ⟨pm, _, _, he, h1, h2, _⟩
        · omega
        · injection he with he; exact ⟨pm, he, h1, (Array.getElem?_eq_some_iff.1 h2).1⟩
      have hxl : xs.length = n := by have := hOx.1; omega
      obtain ⟨z, hz⟩ := HXs.out xs[k] (List.getElem_mem (by omega))
      have hcell : wr.cell? ⟨pm, k, none⟩ = some (.int .u8 z) := by rw [hOx.cellAt k (by omega), List.getElem?_eq_getElem (by omega), hz]
      have hfr : wr.frozen? ⟨pm, k, none⟩ = false := hOx.frozenAt k
      have hk0 : (0 : Int) ≤ (k : Int) := by omega
      have hk1 : (k : Int) < (n : Int) := by omega
      clear hOx hz hxl
      go_wp2_with fail
      go_roundw
      case rel =>
        have hst := HOx.out.stored k (.int .u8 (bits .xor .u8 z 1))
        have hc : Chg (XO g rg (some ⟨pm, 0, none⟩)) wr (wr.setCell ⟨pm, k, none⟩ (.int .u8 (bits .xor .u8 z 1))) := (Chg.refl _ wr).setCell (.inr (.inr ⟨_, rfl, rfl⟩)) _
        refine ⟨k + 1, xs.set k (.int .u8 (bits .xor .u8 z 1)), by omega, by go_num, HBx.out.trans (below_of_row hst.2 (by omega) HBx.out.size), HLx.out.chg hc (hst.2.block _ HLx.out.size.1 (fun e => by injection e with e; omega)) (hst.2.block _ HLx.out.size.2.1 (fun e => by injection e with e; omega)), hst.1, fun u hu => ?_⟩
        rcases List.mem_or_eq_of_mem_set hu with h1 | h1
        · exact HXs.out u h1
        · exact ⟨_, h1⟩
      case measure => simp [intOf]; omega
    · have hf1 : (⟨r, false, 1, 0, 0, [b]⟩ : LS).fine := ⟨⟨by show 1 ≤ r; omega, by show r ≤ 1000; omega⟩, by show 1 ≤ r; omega, by simp, by simp, by simp, by simp⟩
      have HF1 := hide hf1
      clear hf1
      go_wp2_with fail
      refine (get_any (XO g rg Am) (YL g rg) g rg _ wr (.inl rfl) HF1.out HLx.out).mono ?_
      rintro e w5 (⟨hQ, -, -⟩ | ⟨q, rr, vv, hQ, rfl, hrv, hc5, hl5⟩)
      · cases hQ
      have hQ' : [b] = q :: rr := hQ
      injection hQ' with e1 e2
      subst e1
      have HB5 := hide (HBx.out.trans (hc5.toBelow (B := w.heap.size) HXL.out HBx.out.size))
      obtain ⟨Av, cv, rfl⟩ := hrv.form
      have hcv := convert_row hrv
      have HA5 := hide (HL.out.chg (chg_from HB5.out))
      have hca := convert_row HA5.out
      have HL5 := hide (show LaneAt w5 (XO g rg Am) g rg ⟨r, false, 1, 1, 0, []⟩ from hl5)
      have HO5 := hide (own_chg HOx.out hc5 (fun k hk => by rcases hk with rfl | rfl; exact hgne.1; exact hgne.2))
      clear hQ hrv hc5 hl5 e2
      have r0 : ¬ (0 : Nat) = r := by omega
      haveI sF : Sub (YL g rg) (From w.heap.size) := ⟨HXL.out⟩
      have hlt5 : ∀ k, XO g rg Am k → k < w5.heap.size := fun k hk => by
        rcases hk with rfl | rfl | ⟨a, ha, rfl⟩
        · exact HL5.out.size.1
        · exact HL5.out.size.2.1
        · exact (own_block HO5.out a ha).2
      have hf5 : (⟨r, false, 1, 1, 0, []⟩ : LS).fine := ⟨⟨by show 1 ≤ r; omega, by show r ≤ 1000; omega⟩, by simp, by simp, by simp, by simp, by simp⟩
      have HF5 := hide hf5
      have HP5 := hide (show (⟨r, false, 1, 1, 0, []⟩ : LS).put b = ⟨r, false, 2, 1, 0, [b]⟩ by simp [LS.put, r0])
      have HW5 := hide hlt5
      clear hf5 hlt5 r0
      go_wp2_with fail
      refine (put_from (XO g rg Am) (YL g rg) (From w.heap.size) g rg _ A n cap b w5 (.inl rfl) (.inr rfl) HW5.out HF5.out (by show (1 : Int) < 1000000; decide) HL5.out HA5.out (by omega)).mono ?_
      rintro e w6 ⟨rfl, hc6, hl6⟩
      rw [HP5.out] at hl6
      have HB6 := hide (HB5.out.trans (hc6.toBelow (B := w.heap.size) HXL.out HB5.out.size))
      have HL6 := hide hl6
      have hf6 : (⟨r, false, 2, 1, 0, [b]⟩ : LS).fine := ⟨⟨by show 1 ≤ r; omega, by show r ≤ 1000; omega⟩, by show 1 ≤ r; omega, by simp, by simp, by simp, by simp⟩
      have HF6 := hide hf6
      clear hc6 hl6 hf6
      go_wp2_with fail
      refine (cut_any (XO g rg Am) (YL g rg) g rg _ w6 (.inl rfl) HF6.out HL6.out).mono ?_
      rintro e w7 ⟨rfl, hc7, hl7⟩
      have hd7 : (⟨r, false, 2, 1, 0, [b]⟩ : LS).down = ⟨r, true, 2, 1, 1, []⟩ := by simp [LS.down]
      rw [hd7] at hl7
      have HB7 := hide (HB6.out.trans (hc7.toBelow (B := w.heap.size) HXL.out HB6.out.size))
      have HL7 := hide (hl7.reX (X' := YL g rg) (fun k hk => .inl (by rcases hk with h | h; exact .inl h; exact .inr (.inl h))))
      have HA7 := hide (HL.out.chg (chg_from HB7.out))
      have HF7 := hide (show (⟨r, true, 2, 1, 1, []⟩ : LS).fine from ⟨⟨by show 1 ≤ r; omega, by show r ≤ 1000; omega⟩, by simp, by simp, by simp, by simp, by simp⟩)
      have HP7 := hide (show (⟨r, true, 2, 1, 1, []⟩ : LS).put b = ⟨r, true, 3, 1, 2, []⟩ by simp [LS.put])
      have HE7 := hide (show (⟨r, true, 2, 1, 1, []⟩ : LS).putE = 7 by simp [LS.putE])
      have HW7 := hide (show ∀ k, YL g rg k → k < w7.heap.size from fun k hk => by
        rcases hk with rfl | rfl
        · exact HL7.out.size.1
        · exact HL7.out.size.2.1)
      clear hd7 hc7 hl7
      go_wp2_with fail
      refine (put_from (YL g rg) (YL g rg) (From w.heap.size) g rg _ A n cap b w7 (.inl rfl) (.inr rfl) HW7.out HF7.out (by show (2 : Int) < 1000000; decide) HL7.out HA7.out (by omega)).mono ?_
      rintro e w8 ⟨rfl, hc8, hl8⟩
      rw [HP7.out] at hl8
      rw [HE7.out]
      have HB8 := hide (HB7.out.trans (hc8.toBelow (B := w.heap.size) HXL.out HB7.out.size))
      have HL8 := hide hl8
      clear hc8 hl8
      go_wp2_with fail
      refine (heal_any (YL g rg) (YL g rg) g rg _ w8 (.inl rfl) HL8.out).mono ?_
      rintro e w9 ⟨rfl, hc9, hl9⟩
      have HB9 := hide (HB8.out.trans (hc9.toBelow (B := w.heap.size) HXL.out HB8.out.size))
      have HL9 := hide (show LaneAt w9 (YL g rg) g rg ⟨r, false, 3, 1, 2, []⟩ from hl9)
      clear hc9 hl9
      go_wp2_with fail
      go_loopw [15] (fun i wx => ∃ (k : Nat) (Q : List (List UInt8)), k ≤ r ∧ i = .int .i64 k ∧ Q.length = k ∧ Below w.heap.size w wx ∧ LaneAt wx (YL g rg) g rg ⟨r, false, 3 + k, 1, 2, Q⟩)
        (fun i _ => r - (intOf i).toNat)
      case atStart => exact ⟨0, [], by omega, rfl, rfl, HB9.out, HL9.out⟩
      case round =>
        obtain ⟨k', Q, hk', rfl, hQ, hbel, hlane⟩ := hrel
        have HQ := hide hQ; have HBy := hide hbel; have HLy := hide hlane
        clear hQ hbel hlane
        have hQl : Q.length = k' := HQ.out
        have HFy := hide (show (⟨r, false, 3 + k', 1, 2, Q⟩ : LS).fine from ⟨⟨by show 1 ≤ r; omega, by show r ≤ 1000; omega⟩, by show Q.length ≤ r; omega, by show (3 : Int) + k' = 1 + 2 + (Q.length : Int); omega, by show (0 : Int) ≤ 1; omega, by show (0 : Int) ≤ 2; omega, by show (3 : Int) + k' ≤ 1000000; omega⟩)
        by_cases hlt : k' < r
        · have hsg := HLy.out.size
          have HRr := hide (RowAt.fresh (X := YL g rg) (w := wr.alloc (.cells #[.int .u8 (k' : Int)] 5)) (g := wr.heap.size) (cap := 1) (b := [UInt8.ofNat k']) (fun hy => by rcases hy with h1 | h1 <;> omega) (by simp) (by
            have : (bcells [UInt8.ofNat k']).toArray = #[.int .u8 (k' : Int)] := by simp [bcells]; omega
            rw [this]
            exact heap_alloc_new _ _))
          have HLz := hide (HLy.out.chg ((Chg.refl (YL g rg) wr).alloc (.cells #[.int .u8 (k' : Int)] 5)) (Below.heap_alloc _ _ _ hsg.1) (Below.heap_alloc _ _ _ hsg.2.1))
          have HPy := hide (show (⟨r, false, 3 + k', 1, 2, Q⟩ : LS).put [UInt8.ofNat k'] = ⟨r, false, 3 + (k' + 1 : Nat), 1, 2, Q ++ [[UInt8.ofNat k']]⟩ by
            have : ¬ Q.length = r := by omega
            simp [LS.put, this]; omega)
          have HEy := hide (show (⟨r, false, 3 + k', 1, 2, Q⟩ : LS).putE = 0 by
            have : ¬ Q.length = r := by omega
            simp [LS.putE, this])
          have hk0 : (0 : Int) ≤ (k' : Int) := by omega
          have hk1 : (k' : Int) < (r : Int) := by omega
          have hk2 : (k' : Int) < 256 := by omega
          clear hQl
          go_wp2_with fail
          refine (put_any (YL g rg) (YL g rg) g rg _ _ _ _ [UInt8.ofNat k'] _ (.inl rfl) (.inr rfl) (fun k hk => by rcases hk with rfl | rfl <;> (simp; omega)) HFy.out (by show (3 : Int) + k' < 1000000; omega) HLz.out HRr.out (by show 1 ≤ 140737488355328; decide)).mono ?_
          rintro e w10 ⟨rfl, hc10, hl10⟩
          rw [HPy.out] at hl10
          rw [HEy.out]
          have HC10 := hide hc10; have HL10 := hide hl10
          clear hc10 hl10
          go_wp2_with fail
          go_roundw
          case rel => exact ⟨k' + 1, _, by omega, by go_num, by simp [HQ.out], (HBy.out.alloc HBy.out.size _).trans (HC10.out.toBelow (B := w.heap.size) HXL.out (by have := HBy.out.size; simp; omega)), HL10.out⟩
          case measure => simp [intOf]; omega
        · obtain rfl : k' = r := by omega
          have HAy := hide (HL.out.chg (chg_from HBy.out))
          have HWy := hide (show ∀ k, YL g rg k → k < wr.heap.size from fun k hk => by
            rcases hk with rfl | rfl
            · exact HLy.out.size.1
            · exact HLy.out.size.2.1)
          have HPy := hide (show (⟨k', false, 3 + k', 1, 2, Q⟩ : LS).put b = ⟨k', false, 3 + k' + 1, 1, 3, Q⟩ by simp [LS.put, hQl])
          have HEy := hide (show (⟨k', false, 3 + k', 1, 2, Q⟩ : LS).putE = 3 by simp [LS.putE, hQl])
          clear hQl
          go_wp2_with fail
          refine (put_from (YL g rg) (YL g rg) (From w.heap.size) g rg _ A n cap b wr (.inl rfl) (.inr rfl) HWy.out HFy.out (by show (3 : Int) + k' < 1000000; omega) HLy.out HAy.out (by omega)).mono ?_
          rintro e w10 ⟨rfl, hc10, hl10⟩
          rw [HPy.out] at hl10
          rw [HEy.out]
          have HB10 := hide (HBy.out.trans (hc10.toBelow (B := w.heap.size) HXL.out HBy.out.size))
          have t2 : w10.cell? ⟨g, 2, none⟩ = some (.int .i64 k') := by
            have h := hl10.cells.1
            have hq : Q.length = k' := HQ.out
            rw [show (⟨k', false, 3 + (k' : Int) + 1, 1, 3, Q⟩ : LS).Q.length = k' from hq] at h
            exact h
          clear hc10 hl10
          go_wp2_with (go_at_call 10; refine (len_any _ _ _ t2).mono ?_; rintro e w6 ⟨rfl, rfl⟩)
          go_ret
          exact ⟨rfl, HB10.out⟩

/-! ### The row -/
set_option maxRecDepth 100000 in
theorem laneOwn_lifted (os : Os) (started : os.Started) (H : Type) (enc : TypeId × Value → H) :
    ReturnsInHanded {} Try.checked os 5 .any (Rows.laneOwnSpec.pre6 enc Try.prog Try.f5 Rows.laneOwnRow.domain false) (Rows.laneOwnSpec.post enc Try.prog Try.f5 false true false false) := by
  refine returnsInHanded_of_change (C := Try.checked) own started (by kernel_rfl) Try.func5
    (ChangeSpec.witness6 (enc := enc) (C := Try.checked) false ⟨#[], #[.int .i64 0, .slice none 0 0], []⟩ 8 (by kernel_rfl) (by kernel_rfl) (by kernel_rfl) (by kernel_rfl)) ?_
  intro W base args ds gs before hval0 hW hcnd _
  have hval : ∀ (j : Nat) t v, Try.f5.params[j]? = some t → args[j]? = some v → Value.okWide Try.prog W .any base t v := hval0
  have hW' : DataW.Whole enc Try.prog Try.f5.params.toList Rows.laneOwnSpec.vars false W args.toList ds gs before := hW
  have hlen : args.toList.length = Try.f5.params.toList.length ∧ ds.length = Try.f5.params.toList.length := by
    obtain ⟨p, q, hA, _⟩ := hW'
    exact trodAll_len _ _ _ _ hA
  rw [Try.params5] at hval hlen
  obtain ⟨p0, p1, rfl⟩ := args2 args hlen.1
  obtain ⟨d0, d1, rfl⟩ := list2 ds hlen.2
  obtain rfl : gs = [] := by
    obtain ⟨p, q, _, hV, _⟩ := hW'
    exact (trodVars_none hV).1
  obtain ⟨_, _, hA, _⟩ := id hW'
  rw [Try.params5] at hA
  obtain ⟨_, _, hT0, hA, _⟩ := hA
  obtain ⟨_, _, hT1, hA, _⟩ := hA
  obtain ⟨room, rfl, hroom⟩ := open_i64 (hval 0 3 p0 rfl rfl)
  obtain ⟨A, n, cap, b, rfl, hl⟩ := open_lrow (hval 1 29 p1 rfl rfl) hT1
  refine (laneOwn_any room A n cap b W hroom hl).mono fun e W' ⟨he, hb⟩ => ?_
  subst he
  have hp : ∀ t ∈ Try.f5.params.toList, Try.prog.readableRec t = true ∧ t < Try.prog.types.size := by
    rw [Try.params5]
    intro t ht
    simp at ht
    rcases ht with rfl | rfl
    all_goals first | exact readable29 | exact readable3
  have hpost := law_post (enc := enc) (P := Try.prog) (f := Try.f5) (s := Rows.laneOwnSpec) (tb := 4) (W' := W') laidOut hW' rfl (by kernel_rfl) Try.underlying4 hp ⟨rfl, rfl, rfl⟩ hb
  exact ⟨_, rfl, hpost⟩

theorem laneOwn_holds : Rows.LaneOwnSaid :=
  OpenClaim.holds_of_wide 5 Try.f5 rfl rfl rfl rfl rfl rfl rfl ⟨rfl, rfl, rfl, rfl, rfl⟩ rfl rfl rfl rfl rfl (by kernel_rfl) Try.func5 (by kernel_rfl)
    (of_decide_eq_true (by kernel_rfl)) (by unfold Func.isWrapper; first | (rw [if_pos (by decide +kernel)]; kernel_rfl) | (rw [if_neg (by decide +kernel)]; exact ⟨rfl, rfl⟩))
    (fun os started H enc _ => laneOwn_lifted os started H enc)
#print axioms laneOwn_holds
end Go.Proofs.Ytekljcgljoianaa

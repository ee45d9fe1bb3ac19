/-
  TopTalks, the row: how its arguments open; what stands below the heap's old size is as it was.
-/
import Derived.Test.YtehhldpmhlocdaaDoorTpI
import Derived.LaidMore
import Derived.Stop.Joined
namespace Go.Proofs.YtehhldpmhlocdaaDoor
open Go.RowKit Go.ChangeShapes Go.WideShapes Go.ChangeAt
set_option linter.unusedVariables false

theorem cells5 : Tryd.prog.cellsOf 5 = 1 := by kernel_rfl
theorem cells3 : Tryd.prog.cellsOf 3 = 1 := by kernel_rfl
theorem cells24 : Tryd.prog.cellsOf 24 = 1 := by kernel_rfl
theorem cells26 : Tryd.prog.cellsOf 26 = 17 := by kernel_rfl
theorem cellTypes26 : Tryd.prog.cellTypes Tryd.prog.depth 26 = some [5, 5, 5, 5, 5, 5, 5, 5, 5, 5, 5, 5, 4, 3, 3, 3, 24] := by kernel_rfl
theorem readable26 : Tryd.prog.readableRec 26 = true ∧ 26 < Tryd.prog.types.size := ⟨by kernel_rfl, of_decide_eq_true (by kernel_rfl)⟩
theorem readable24 : Tryd.prog.readableRec 24 = true ∧ 24 < Tryd.prog.types.size := ⟨by kernel_rfl, of_decide_eq_true (by kernel_rfl)⟩
theorem readable27 : Tryd.prog.readableRec 27 = true ∧ 27 < Tryd.prog.types.size := ⟨by kernel_rfl, of_decide_eq_true (by kernel_rfl)⟩

/-- Bytes that came in, at a slice. -/
theorem bytes_in {H : Type} {enc : TypeId × Value → H} {w : World} {r : Reach} {base fuel : Nat} {v : Value} {x : DataW H × List MemPlace} (hv : Value.okWide Tryd.prog w r base 24 v)
    (hT : DataW.trod enc Tryd.prog w 0 (fun _ => true) true fuel 24 [v] = some x) : ∃ A cap, ∃ ys : List UInt8, v = .slice A ys.length cap ∧ (ys = [] ∨ ∃ b o, A = some ⟨b, o, none⟩ ∧ b < w.heap.size ∧ BytesAt w b o ys) := by
  have hu := Tryd.underlying24
  obtain ⟨A, n, cap, rfl⟩ := okWide_slice hu hv
  simp only [Value.okWide, hu, Cell.okWide] at hv
  rcases Go.Deep.open_slice1 hu cells5 hT with ⟨h0, _⟩ | ⟨a, len, cap', m, q, V, D, Pl, h0, _, hl, hm, hmm, _, hel⟩
  · injection h0 with h0 _
    injection h0 with h1 h2 h3
    subst h1 h2 h3
    exact ⟨none, 0, [], rfl, .inl rfl⟩
  · injection h0 with h0 _
    injection h0 with h1 h2 h3
    subst h1 h2 h3
    simp only [Cell.ok, hu] at hv
    obtain ⟨_, hcap, _, hspot, _⟩ := hv
    obtain ⟨b, o, sp⟩ := a
    simp at hspot
    subst hspot
    simp at hmm
    obtain ⟨K, hK⟩ := Go.Deep.choose_lt (α := Int) (n := n) (p := fun i k => w.cell? ⟨b, o + i, none⟩ = some (.int .u8 k) ∧ 0 ≤ k ∧ k < 256) (fun i hi => by
      obtain ⟨h1, h2⟩ := hel i (by omega)
      obtain ⟨k, hk, _, hw⟩ := DataW.trod_int Tryd.underlying5 h2
      injection hk with hk _
      rw [hk] at h1
      exact ⟨k, cellAt_of_add _ h1, wf_u8 hw⟩)
    have hlen : ((List.range n).map fun i => UInt8.ofNat (K i).toNat).length = n := by simp
    refine ⟨some ⟨b, o, none⟩, cap, (List.range n).map fun i => UInt8.ofNat (K i).toNat, by rw [hlen], ?_⟩
    by_cases h0 : n = 0
    · subst h0; exact .inl rfl
    · refine .inr ⟨b, o, rfl, cell_lt (hK 0 (by omega)).1, fun i hi => ?_⟩
      have hi' : i < n := by simpa using hi
      rw [(hK i hi').1]
      have hk := (hK i hi').2
      simp
      omega
/-- Integers that came in, at a slice. -/
theorem ints_in {H : Type} {enc : TypeId × Value → H} {w : World} {r : Reach} {base fuel : Nat} {v : Value} {x : DataW H × List MemPlace} (hv : Value.okWide Tryd.prog w r base 27 v)
    (hT : DataW.trod enc Tryd.prog w 0 (fun _ => true) true fuel 27 [v] = some x) : ∃ A n cap, ∃ L : List Int, v = .slice A n cap ∧ L.length = n ∧ (n ≤ cap ∧ cap ≤ 9223372036854775807) ∧ IntSl w w.heap.size A L := by
  have hu := Tryd.underlying27
  obtain ⟨A, n, cap, rfl⟩ := okWide_slice hu hv
  simp only [Value.okWide, hu, Cell.okWide] at hv
  rcases Go.Deep.open_slice1 hu cells3 hT with ⟨h0, _⟩ | ⟨a, len, cap', m, q, V, D, Pl, h0, _, hl, hm, hmm, _, hel⟩
  · injection h0 with h0 _
    injection h0 with h1 h2 h3
    subst h1 h2 h3
    exact ⟨none, 0, 0, [], rfl, rfl, ⟨by omega, by omega⟩, .inl rfl⟩
  · injection h0 with h0 _
    injection h0 with h1 h2 h3
    subst h1 h2 h3
    simp only [Cell.ok, hu] at hv
    obtain ⟨_, hcap, _, hspot, _⟩ := hv
    have hmx : maxLen = 9223372036854775807 := rfl
    obtain ⟨b, o, sp⟩ := a
    simp at hspot
    subst hspot
    simp at hmm
    obtain ⟨K, hK⟩ := Go.Deep.choose_lt (α := Int) (n := n) (p := fun i k => w.cell? ⟨b, o + i, none⟩ = some (.int .i64 k)) (fun i hi => by
      obtain ⟨h1, h2⟩ := hel i (by omega)
      obtain ⟨k, hk, _, hw⟩ := DataW.trod_int Tryd.underlying3 h2
      injection hk with hk _
      rw [hk] at h1
      exact ⟨k, cellAt_of_add _ h1⟩)
    refine ⟨some ⟨b, o, none⟩, n, cap, (List.range n).map K, rfl, by simp, ⟨hl, by omega⟩, ?_⟩
    by_cases h0 : n = 0
    · subst h0; exact .inl rfl
    · refine .inr ⟨b, o, rfl, cell_lt (hK 0 (by omega)), fun i hi => ?_⟩
      have hi' : i < n := by simpa using hi
      rw [hK i hi']
      simp

theorem u8_of {n : Int} (h : 0 ≤ n ∧ n < 256) : ∃ u : UInt8, n = (u.toNat : Int) := ⟨byteOf n, by rw [byteOf_toNat]; omega⟩
theorem row_bool {w : World} {r : Reach} {base : Nat} {ts : List TypeId} {t : TypeId} {cs : Array Value} (hts : Tryd.prog.cellTypes Tryd.prog.depth t = some ts) (h : Row.okWide Tryd.prog w r base t cs) {i : Nat} (hi : ts[i]? = some 4) (hcs : i < cs.size) : ∃ b, cs[i]? = some (.bool b) := by
  obtain ⟨ts', h1, _, h3⟩ := h
  have e : ts' = ts := by rw [hts] at h1; injection h1 with h1; exact h1.symm
  subst e
  obtain ⟨u', hu', hc⟩ := h3 i cs[i] (Array.getElem?_eq_getElem hcs)
  have hlt : i < ts'.length := (List.getElem?_eq_some_iff.1 hi).1
  rw [Nat.mod_eq_of_lt hlt, hi] at hu'
  injection hu' with hu'
  subst hu'
  rw [Array.getElem?_eq_getElem hcs]
  generalize cs[i] = v at hc
  cases v <;> simp [Cell.okWide, Cell.ok, Tryd.underlying4] at hc
  exact ⟨_, rfl⟩
theorem row_slice {w : World} {r : Reach} {base : Nat} {ts : List TypeId} {t : TypeId} {cs : Array Value} (hts : Tryd.prog.cellTypes Tryd.prog.depth t = some ts) (h : Row.okWide Tryd.prog w r base t cs) {i : Nat} (hi : ts[i]? = some 24) {v : Value} (hv : cs[i]? = some v) : Value.okWide Tryd.prog w r base 24 v := by
  obtain ⟨ts', h1, _, h3⟩ := h
  have e : ts' = ts := by rw [hts] at h1; injection h1 with h1; exact h1.symm
  subst e
  obtain ⟨u', hu', hc⟩ := h3 i v hv
  have hlt : i < ts'.length := (List.getElem?_eq_some_iff.1 hi).1
  rw [Nat.mod_eq_of_lt hlt, hi] at hu'
  injection hu' with hu'
  subst hu'
  simp only [Value.okWide, Tryd.underlying24]
  exact hc
theorem array17 {α : Type} (a : Array α) (h : a.size = 17) : ∃ c0 c1 c2 c3 c4 c5 c6 c7 c8 c9 c10 c11 c12 c13 c14 c15 c16, a = #[c0, c1, c2, c3, c4, c5, c6, c7, c8, c9, c10, c11, c12, c13, c14, c15, c16] := by
  obtain ⟨l⟩ := a
  match l, h with
  | [c0, c1, c2, c3, c4, c5, c6, c7, c8, c9, c10, c11, c12, c13, c14, c15, c16], _ => exact ⟨c0, c1, c2, c3, c4, c5, c6, c7, c8, c9, c10, c11, c12, c13, c14, c15, c16, rfl⟩

/-- A frame that came in. -/
theorem fra_in {H : Type} {enc : TypeId × Value → H} {w : World} {r : Reach} {base : Nat} {v : Value} {d : DataW H} {ps : List MemPlace} (hv : Value.okWide Tryd.prog w r base 26 v)
    (hT : DataW.Trod enc Tryd.prog w 0 (fun _ => true) true 26 v d ps) : ∃ (x : Fra) (bd : List UInt8), v = .agg #[.int .u8 (x.d0.toNat : Int), .int .u8 (x.d1.toNat : Int), .int .u8 (x.d2.toNat : Int), .int .u8 (x.d3.toNat : Int), .int .u8 (x.d4.toNat : Int), .int .u8 (x.d5.toNat : Int), .int .u8 (x.s0.toNat : Int), .int .u8 (x.s1.toNat : Int), .int .u8 (x.s2.toNat : Int), .int .u8 (x.s3.toNat : Int), .int .u8 (x.s4.toNat : Int), .int .u8 (x.s5.toNat : Int), .bool x.tg, .int .i64 x.vl, .int .i64 x.pr, .int .i64 x.ty, .slice x.A x.n x.cap] ∧ BodyAt w w.heap.size x bd := by
  obtain ⟨fuel, hT⟩ := hT
  simp only [Value.okWide, Tryd.underlying26] at hv
  obtain ⟨cs, rfl, hsz, hrow⟩ := hv
  rw [cells26] at hsz
  obtain ⟨n0, e0, b0⟩ := row_int cellTypes26 hrow (i := 0) rfl Tryd.underlying5 (by omega)
  obtain ⟨n1, e1, b1⟩ := row_int cellTypes26 hrow (i := 1) rfl Tryd.underlying5 (by omega)
  obtain ⟨n2, e2, b2⟩ := row_int cellTypes26 hrow (i := 2) rfl Tryd.underlying5 (by omega)
  obtain ⟨n3, e3, b3⟩ := row_int cellTypes26 hrow (i := 3) rfl Tryd.underlying5 (by omega)
  obtain ⟨n4, e4, b4⟩ := row_int cellTypes26 hrow (i := 4) rfl Tryd.underlying5 (by omega)
  obtain ⟨n5, e5, b5⟩ := row_int cellTypes26 hrow (i := 5) rfl Tryd.underlying5 (by omega)
  obtain ⟨n6, e6, b6⟩ := row_int cellTypes26 hrow (i := 6) rfl Tryd.underlying5 (by omega)
  obtain ⟨n7, e7, b7⟩ := row_int cellTypes26 hrow (i := 7) rfl Tryd.underlying5 (by omega)
  obtain ⟨n8, e8, b8⟩ := row_int cellTypes26 hrow (i := 8) rfl Tryd.underlying5 (by omega)
  obtain ⟨n9, e9, b9⟩ := row_int cellTypes26 hrow (i := 9) rfl Tryd.underlying5 (by omega)
  obtain ⟨n10, e10, b10⟩ := row_int cellTypes26 hrow (i := 10) rfl Tryd.underlying5 (by omega)
  obtain ⟨n11, e11, b11⟩ := row_int cellTypes26 hrow (i := 11) rfl Tryd.underlying5 (by omega)
  obtain ⟨b, e12⟩ := row_bool cellTypes26 hrow (i := 12) rfl (by omega)
  obtain ⟨n13, e13, b13⟩ := row_int cellTypes26 hrow (i := 13) rfl Tryd.underlying3 (by omega)
  obtain ⟨n14, e14, b14⟩ := row_int cellTypes26 hrow (i := 14) rfl Tryd.underlying3 (by omega)
  obtain ⟨n15, e15, b15⟩ := row_int cellTypes26 hrow (i := 15) rfl Tryd.underlying3 (by omega)
  obtain ⟨c0, c1, c2, c3, c4, c5, c6, c7, c8, c9, c10, c11, c12, c13, c14, c15, c16, rfl⟩ := array17 cs hsz
  have hok := row_slice cellTypes26 hrow (i := 16) rfl (v := c16) rfl
  have hbody : ∃ q x, DataW.trod enc Tryd.prog w 0 (fun _ => true) true q 24 [c16] = some x := by
    obtain ⟨xs, q, _, _, _, hlen, hel⟩ := DataW.trod_struct Tryd.underlying26 (show DataW.trod enc Tryd.prog w 0 (fun _ => true) true fuel 26 [c0, c1, c2, c3, c4, c5, c6, c7, c8, c9, c10, c11, c12, c13, c14, c15, c16] = some (d, ps) from hT)
    have h6 := hel 6 _ rfl
    have hl6 : 6 < xs.length := by rw [hlen]; decide
    rw [List.getElem?_eq_getElem hl6] at h6
    simp only [List.getElem_toArray, List.getElem_cons_succ, List.getElem_cons_zero, cells24, List.drop_succ_cons, List.drop_zero, List.take_succ_cons, List.take_zero] at h6
    exact ⟨q, _, h6⟩
  obtain ⟨q, x, hb⟩ := hbody
  obtain ⟨A, cap, ys, rfl, hys⟩ := bytes_in hok hb
  simp at e0 e1 e2 e3 e4 e5 e6 e7 e8 e9 e10 e11 e12 e13 e14 e15
  subst e0 e1 e2 e3 e4 e5 e6 e7 e8 e9 e10 e11 e12 e13 e14 e15
  obtain ⟨u0, rfl⟩ := u8_of (wf_u8 b0)
  obtain ⟨u1, rfl⟩ := u8_of (wf_u8 b1)
  obtain ⟨u2, rfl⟩ := u8_of (wf_u8 b2)
  obtain ⟨u3, rfl⟩ := u8_of (wf_u8 b3)
  obtain ⟨u4, rfl⟩ := u8_of (wf_u8 b4)
  obtain ⟨u5, rfl⟩ := u8_of (wf_u8 b5)
  obtain ⟨u6, rfl⟩ := u8_of (wf_u8 b6)
  obtain ⟨u7, rfl⟩ := u8_of (wf_u8 b7)
  obtain ⟨u8, rfl⟩ := u8_of (wf_u8 b8)
  obtain ⟨u9, rfl⟩ := u8_of (wf_u8 b9)
  obtain ⟨u10, rfl⟩ := u8_of (wf_u8 b10)
  obtain ⟨u11, rfl⟩ := u8_of (wf_u8 b11)
  exact ⟨⟨u0, u1, u2, u3, u4, u5, u6, u7, u8, u9, u10, u11, b, n13, n14, n15, A, ys.length, cap⟩, ys, rfl, rfl, hys⟩

theorem door_met (os : Os) (args : Array Value) : laidMetH Tryd.prog [("bytes.ErrTooLarge", Rows.laid_bytes_ErrTooLarge)] ((World.doorLaid Tryd.prog 400 os).forCall (fun _ _ => 0) ⟨#[], args, []⟩).memory :=
  laidMetH_of_parts3 (fuel := 8) (laidMet_of_run' 8 (by kernel_rfl) (by kernel_rfl)) (by kernel_rfl) (by kernel_rfl)

set_option maxRecDepth 100000 in
theorem topTalks_lifted (os : Os) (started : os.Started) (H : Type) (enc : TypeId × Value → H) :
    ReturnsInHanded {} Tryd.checked os 3 .any (fun w args => (Rows.topTalksSpec.pre enc Tryd.prog Tryd.f3 [] false w args ∧ laidMetH Tryd.prog [("bytes.ErrTooLarge", Rows.laid_bytes_ErrTooLarge)] w) ∧ sizedMet enc Tryd.prog Tryd.f3 (OpenSpec.ofChange Rows.topTalksSpec) false w args)
      (Rows.topTalksSpec.post enc Tryd.prog Tryd.f3 false true false false) := by
  refine returnsInHanded_of_change_and (C := Tryd.checked) (X := fun w _ => laidMetH Tryd.prog [("bytes.ErrTooLarge", Rows.laid_bytes_ErrTooLarge)] w) (fun _ _ _ hh h => h.of_heap hh) own started (by kernel_rfl) Tryd.func3
    (ChangeSpec.witness_shaped (enc := enc) (C := Tryd.checked) (os := os) (X := fun w _ => laidMetH Tryd.prog [("bytes.ErrTooLarge", Rows.laid_bytes_ErrTooLarge)] w) false (World.doorLaid Tryd.prog 400 os) #[.agg #[.int .u8 0, .int .u8 0, .int .u8 0, .int .u8 0, .int .u8 0, .int .u8 0, .int .u8 0, .int .u8 0, .int .u8 0, .int .u8 0, .int .u8 0, .int .u8 0, .bool false, .int .i64 0, .int .i64 0, .int .i64 0, .slice none 0 0], .slice none 0 0, .slice none 0 0] 8 rfl (World.shaped_of_RefB (by kernel_rfl) (by kernel_rfl)) (by kernel_rfl) (by kernel_rfl) (by kernel_rfl) (door_met os _)) ?_
  intro W base args ds gs before hval0 hW _ _ hL _
  have hval : ∀ (j : Nat) t v, Tryd.f3.params[j]? = some t → args[j]? = some v → Value.okWide Tryd.prog W .any base t v := hval0
  have hW' : DataW.Whole enc Tryd.prog Tryd.f3.params.toList Rows.topTalksSpec.vars false W args.toList ds gs before := hW
  have hlen : args.toList.length = Tryd.f3.params.toList.length ∧ ds.length = Tryd.f3.params.toList.length := by
    obtain ⟨p, q, hA, _⟩ := hW'
    exact trodAll_len _ _ _ _ hA
  rw [Tryd.params3] at hval hlen
  obtain ⟨p0, p1, p2, rfl⟩ := args3 args hlen.1
  obtain ⟨d0, d1, d2, rfl⟩ := list3 ds hlen.2
  obtain rfl : gs = [] := by
    obtain ⟨p, q, _, hV, _⟩ := hW'
    exact (trodVars_none hV).1
  obtain ⟨_, _, hA, _⟩ := id hW'
  rw [Tryd.params3] at hA
  obtain ⟨_, _, hT0, hA, _⟩ := hA
  obtain ⟨_, _, hT1, hA, _⟩ := hA
  obtain ⟨_, _, hT2, hA, _⟩ := hA
  obtain ⟨x, bdx, rfl, hx⟩ := fra_in (hval 0 26 p0 rfl rfl) hT0
  obtain ⟨f1, hT1⟩ := hT1
  obtain ⟨f2, hT2⟩ := hT2
  have hv1 := hval 1 24 p1 rfl rfl
  have hv2 := hval 2 27 p2 rfl rfl
  obtain ⟨A0, n0, c0, e1⟩ := okWide_slice Tryd.underlying24 hv1
  obtain ⟨A3, n3, c3, e2⟩ := okWide_slice Tryd.underlying27 hv2
  obtain ⟨A1, c1, bd, rfl, hb⟩ := bytes_in hv1 (show DataW.trod enc Tryd.prog W 0 (fun _ => true) true f1 24 [p1] = some (d1, _) from by rw [e1] at hT1 ⊢; exact hT1)
  obtain ⟨A2, n2, c2, L, rfl, hLn, hLc, hl⟩ := ints_in hv2 (show DataW.trod enc Tryd.prog W 0 (fun _ => true) true f2 27 [p2] = some (d2, _) from by rw [e2] at hT2 ⊢; exact hT2)
  refine (topTalks_any x bdx A1 bd.length c1 bd A2 n2 c2 L W hx ⟨rfl, hb⟩ hLn hLc hl).mono fun e W' ⟨he, hbel⟩ => ?_
  subst he
  have hp : ∀ t ∈ Tryd.f3.params.toList, Tryd.prog.readableRec t = true ∧ t < Tryd.prog.types.size := by
    rw [Tryd.params3]
    intro t ht
    simp at ht
    rcases ht with rfl | rfl | rfl
    · exact readable26
    · exact readable24
    · exact readable27
  have hpost := law_post (enc := enc) (P := Tryd.prog) (f := Tryd.f3) (s := Rows.topTalksSpec) (tb := 4) (W' := W') laidOut hW' rfl (by kernel_rfl) Tryd.underlying4 hp ⟨rfl, rfl, rfl⟩ hbel
  exact ⟨_, rfl, hpost⟩

theorem topTalks_said : Rows.TopTalksSaid :=
  OpenClaim.holds_of_wide 3 Tryd.f3 rfl rfl rfl rfl rfl rfl rfl ⟨rfl, rfl, rfl, rfl, rfl⟩ rfl rfl rfl rfl rfl (by kernel_rfl) Tryd.func3 (by kernel_rfl)
    (of_decide_eq_true (by kernel_rfl)) (by unfold Func.isWrapper; first | (rw [if_pos (by decide +kernel)]; kernel_rfl) | (rw [if_neg (by decide +kernel)]; exact ⟨rfl, rfl⟩))
    (fun os started H enc _ => topTalks_lifted os started H enc)
#print axioms topTalks_said
end Go.Proofs.YtehhldpmhlocdaaDoor

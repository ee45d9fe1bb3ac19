/-
  Two ends of a link that hear one another: the plain law of one round.
-/
import Derived.Test.YtooieocfgifpgaaRxD
namespace Go.Proofs.Ytooieocfgifpgaa
open Go.RowKit Go.WideShapes Go.ChangeShapes
set_option linter.unusedVariables false

theorem small_iff {n : Int} (hr : -9223372036854775808 ≤ n ∧ n ≤ 9223372036854775807) : (0 ≤ n ∧ n ≤ 255) ↔ ∀ k, 8 ≤ k → k < 64 → hb n k = false := by
  have hn : (BitVec.ofInt 64 n).toNat = (n % 18446744073709551616).toNat := by rw [BitVec.toNat_ofInt]; rfl
  constructor
  · intro h k h8 hk
    unfold hb
    rw [← BitVec.testBit_toNat, hn]
    refine Nat.testBit_lt_two_pow ?_
    have : 2 ^ 8 ≤ 2 ^ k := Nat.pow_le_pow_right (by decide) h8
    omega
  · intro h
    have hlt : (BitVec.ofInt 64 n).toNat < 2 ^ 8 := Nat.lt_pow_two_of_testBit _ fun i hi => by
      by_cases h64 : i < 64
      · have := h i hi h64
        unfold hb at this
        rwa [← BitVec.testBit_toNat] at this
      · refine Nat.testBit_lt_two_pow (Nat.lt_of_lt_of_le (BitVec.ofInt 64 n).isLt ?_)
        exact Nat.pow_le_pow_right (by decide) (by omega)
    rw [hn] at hlt
    omega
theorem small_or {x y : Int} (hx : 0 ≤ x ∧ x ≤ 255) (hy : 0 ≤ y ∧ y ≤ 255) : 0 ≤ bits .or .i64 x y ∧ bits .or .i64 x y ≤ 255 := by
  refine (small_iff (bits_range _ _ _)).2 fun k h8 hk => ?_
  rw [hb_or, (small_iff ⟨by omega, by omega⟩).1 hx k h8 hk, (small_iff ⟨by omega, by omega⟩).1 hy k h8 hk]
  rfl
theorem small_andNot {x y : Int} (hx : 0 ≤ x ∧ x ≤ 255) : 0 ≤ bits .andNot .i64 x y ∧ bits .andNot .i64 x y ≤ 255 := by
  refine (small_iff (bits_range _ _ _)).2 fun k h8 hk => ?_
  rw [hb_andNot _ _ _ hk, (small_iff ⟨by omega, by omega⟩).1 hx k h8 hk]
  rfl
theorem small_mux {n : Int} (hr : -9223372036854775808 ≤ n ∧ n ≤ 9223372036854775807) (h : okMux n = true) : 0 ≤ n ∧ n ≤ 255 := by
  refine (small_iff hr).2 fun k h8 hk => ?_
  simp only [okMux, Bool.and_eq_true, beq_iff_eq] at h
  have h2 := hb_andNot n 56 k hk
  rw [h.2] at h2
  have h3 : hb 56 k = false := (small_iff (n := 56) (by decide)).1 (by decide) k h8 hk
  have h4 : hb 0 k = false := (small_iff (n := 0) (by decide)).1 (by decide) k h8 hk
  rw [h3, h4] at h2
  simpa using h2.symm

/-- An end of the two. -/
structure Mt (x : ES) (a : Inf) (mm : Int) : Prop where
  a : x.a = a
  m : x.m = mm
  p : x.p.fine
  s : x.s = 1 ∨ x.s = 3
theorem Mt.actor {x : ES} {a : Inf} {mm : Int} (h : Mt x a mm) (ha : a.fine) (hm : 0 ≤ mm ∧ mm ≤ 255) : x.actor.fine := by
  obtain ⟨h1, h2, h3, h4, h5⟩ := ha
  have hs : 0 ≤ x.actSt ∧ x.actSt ≤ 255 := by
    unfold ES.actSt
    rw [h.a, h.m]
    have hb0 := small_or h5 hm
    split
    · exact small_or hb0 (by decide)
    · split
      · exact small_or hb0 (by decide)
      · exact hb0
  refine ⟨?_, ?_, ?_, ?_, hs⟩
  · show 0 ≤ x.a.sp ∧ x.a.sp ≤ 65535; rw [h.a]; exact h1
  · show 0 ≤ x.a.key ∧ x.a.key ≤ 65535; rw [h.a]; exact h2
  · show 0 ≤ x.a.pp ∧ x.a.pp ≤ 65535; rw [h.a]; exact h3
  · show 0 ≤ x.a.port ∧ x.a.port ≤ 65535; rw [h.a]; exact h4
def act3 (a : Inf) (mm : Int) : Inf := { a with st := bits .or .i64 a.st mm }
theorem Mt.act3 {x : ES} {a : Inf} {mm : Int} (h : Mt x a mm) (hs : x.s = 3) : x.actor = act3 a mm := by
  unfold ES.actor ES.actSt Go.Proofs.Ytooieocfgifpgaa.act3
  rw [hs, h.a, h.m]
  rfl
theorem okL_of {la lp : Inf} (h1 : la.fine) (h2 : lp.fine) : okL la lp 0 = true := by
  simp only [okL, Bool.and_eq_true]
  exact ⟨⟨(Inf.ok_iff la).2 h1, (Inf.ok_iff lp).2 h2⟩, rfl⟩
theorem strip_fine {x : Inf} (h : x.fine) : ({ x with st := bits .andNot .i64 x.st 8 } : Inf).fine := ⟨h.sp, h.key, h.pp, h.port, small_andNot h.st⟩
theorem knows_strip (x : Inf) : knows { x with st := bits .andNot .i64 x.st 8 } x = true := by
  unfold knows
  have e : ({ x with st := bits .andNot .i64 x.st 8 } : Inf).bare = x.bare := rfl
  rw [e, eqI_self]
  show (true && ((hb (bits .andNot .i64 x.st 8) 2 == hb x.st 2) && (!hb (bits .andNot .i64 x.st 8) 3 || hb x.st 3))) = true
  rw [hb_andNot _ _ _ (by decide), hb_andNot _ _ _ (by decide), hb_lit bit8 (by decide) 2 (by decide), hb_lit bit8 (by decide) 3 (by decide)]
  simp
theorem knows_same (x : Inf) : knows x x = true := by simp [knows, eqI_self]
theorem tellB_same (x : Inf) : tellB x x = false := by simp [tellB, eqI_self]

/-- An end that may be told something takes it. -/
theorem take_ok {x : ES} {a la lp : Inf} {mm now : Int} (h : Mt x a mm) (hn : 0 ≤ now ∧ now ≤ 100) (h1 : la.fine) (h2 : lp.fine) (hne : (eqM la a && (la.port == a.port)) = false) : x.takeE la lp 0 now = 0 := by
  unfold ES.takeE
  have hi := (inW_iff 1099511627776 now).2 ⟨by omega, by omega⟩
  have hs : (x.s == 0) = false := by rcases h.s with h | h <;> rw [h] <;> rfl
  have hne' : (eqM la x.actor && (la.port == x.actor.port)) = false := by
    have e1 : eqM la x.actor = eqM la x.a := rfl
    have e2 : x.actor.port = x.a.port := rfl
    rw [e1, e2, h.a]; exact hne
  rw [hi, hs, okL_of h1 h2, hne']
  rfl
theorem heard_mt {x : ES} {a la lp : Inf} {mm now : Int} (h : Mt x a mm) (h1 : la.fine) : Mt (x.heard la lp now) a mm ∧ (x.heard la lp now).s = 3 := by
  refine ⟨⟨h.a, h.m, ?_, .inr rfl⟩, rfl⟩
  unfold ES.heard
  show Inf.fine (if _ then _ else _)
  split
  · exact strip_fine h1
  · exact h1

/-- One round. -/
theorem round_ok {X Y : ES} {a b : Inf} {mx my now : Int} (hX : Mt X a mx) (hY : Mt Y b my) (ha : a.fine) (hb : b.fine) (hmx : 0 ≤ mx ∧ mx ≤ 255) (hmy : 0 ≤ my ∧ my ≤ 255) (hn : 0 ≤ now ∧ now ≤ 100) (hne : (eqM a b && (a.port == b.port)) = false) :
    Y.takeE X.actor X.p 0 now = 0 ∧ Mt (Y.take X.actor X.p 0 now) b my ∧ (Y.take X.actor X.p 0 now).s = 3 ∧
    X.takeE (Y.take X.actor X.p 0 now).actor (Y.take X.actor X.p 0 now).p 0 now = 0 ∧ Mt (X.take (Y.take X.actor X.p 0 now).actor (Y.take X.actor X.p 0 now).p 0 now) a mx ∧ (X.take (Y.take X.actor X.p 0 now).actor (Y.take X.actor X.p 0 now).p 0 now).s = 3 ∧
    (X.take (Y.take X.actor X.p 0 now).actor (Y.take X.actor X.p 0 now).p 0 now).p = (Y.take X.actor X.p 0 now).actor ∧
    (X.s = 3 → Y.s = 3 → X.p = Y.actor → (Y.take X.actor X.p 0 now).p = X.actor ∧ Y.takeT X.actor X.p 0 now = false ∧ X.takeT (Y.take X.actor X.p 0 now).actor (Y.take X.actor X.p 0 now).p 0 now = false) := by
  have hXa := hX.actor ha hmx
  have e1 : (eqM X.actor b && (X.actor.port == b.port)) = false := by
    have e1 : eqM X.actor b = eqM X.a b := rfl
    have e2 : X.actor.port = X.a.port := rfl
    rw [e1, e2, hX.a]; exact hne
  have hE1 := take_ok (now := now) (lp := X.p) hY hn hXa hX.p e1
  have hT1 : Y.take X.actor X.p 0 now = Y.heard X.actor X.p now := by unfold ES.take; rw [if_pos hE1]
  obtain ⟨m1, s1⟩ := heard_mt (la := X.actor) (lp := X.p) (now := now) hY hXa
  have hstrip : (Y.heard X.actor X.p now).p = X.actor ∨ (Y.heard X.actor X.p now).p = { X.actor with st := bits .andNot .i64 X.actor.st 8 } := by
    unfold ES.heard
    show (if _ then _ else _) = _ ∨ (if _ then _ else _) = _
    split
    · exact .inr rfl
    · exact .inl rfl
  rw [hT1]
  obtain ⟨Y', hY'⟩ : ∃ Y', Y' = Y.heard X.actor X.p now := ⟨_, rfl⟩
  have hYp : X.s = 3 → Y.s = 3 → X.p = Y.actor → (Y.heard X.actor X.p now).p = X.actor := fun _ _ hp => by
    unfold ES.heard
    show (if _ then _ else _) = _
    rw [hp, knows_same]
    simp
  rw [← hY'] at m1 s1 hstrip hYp ⊢
  have hYa := m1.actor hb hmy
  have e2 : (eqM Y'.actor a && (Y'.actor.port == a.port)) = false := by
    have e1 : eqM Y'.actor a = eqM Y'.a a := rfl
    have e2 : Y'.actor.port = Y'.a.port := rfl
    rw [e1, e2, m1.a]
    have e3 : eqM b a = eqM a b := decide_eq_decide.2 ⟨fun ⟨h0, h1, h2, h3, h4, h5⟩ => ⟨h0.symm, h1.symm, h2.symm, h3.symm, h4.symm, h5.symm⟩, fun ⟨h0, h1, h2, h3, h4, h5⟩ => ⟨h0.symm, h1.symm, h2.symm, h3.symm, h4.symm, h5.symm⟩⟩
    have e4 : (b.port == a.port) = (a.port == b.port) := show decide (b.port = a.port) = decide (a.port = b.port) from decide_eq_decide.2 ⟨Eq.symm, Eq.symm⟩
    rw [e3, e4]; exact hne
  have hE2 := take_ok (now := now) (lp := Y'.p) hX hn hYa m1.p e2
  have hT2 : X.take Y'.actor Y'.p 0 now = X.heard Y'.actor Y'.p now := by unfold ES.take; rw [if_pos hE2]
  obtain ⟨m2, s2⟩ := heard_mt (la := Y'.actor) (lp := Y'.p) (now := now) hX hYa
  have hk : knows Y'.p X.actor = true := by
    rcases hstrip with h | h <;> rw [h]
    · exact knows_same _
    · exact knows_strip _
  refine ⟨hE1, m1, s1, hE2, by rw [hT2]; exact m2, by rw [hT2]; exact s2, ?_, ?_⟩
  · rw [hT2]
    unfold ES.heard
    show (if _ then _ else _) = _
    rw [hk]
    simp
  · intro h1 h2 h3
    refine ⟨hYp h1 h2 h3, ?_, ?_⟩
    · unfold ES.takeT
      rw [hE1, h3, tellB_same]; simp
    · unfold ES.takeT
      rw [hE2, hYp h1 h2 h3, tellB_same]; simp

theorem cells63 : Try.prog.cellsOf 63 = 2 := by kernel_rfl
theorem cellTypes63 : Try.prog.cellTypes Try.prog.depth 63 = some [3, 3] := by kernel_rfl
theorem readable63 : Try.prog.readableRec 63 = true ∧ 63 < Try.prog.types.size := ⟨by kernel_rfl, of_decide_eq_true (by kernel_rfl)⟩
theorem open_two {w : World} {r : Reach} {base : Nat} {v : Value} (h : Value.okWide Try.prog w r base 63 v) : ∃ x y : Int, v = .agg #[.int .i64 x, .int .i64 y] ∧ (-9223372036854775808 ≤ x ∧ x ≤ 9223372036854775807) ∧ (-9223372036854775808 ≤ y ∧ y ≤ 9223372036854775807) := by
  simp only [Value.okWide, Try.underlying63] at h
  obtain ⟨cs, rfl, hsz, hrow⟩ := h
  rw [cells63] at hsz
  obtain ⟨x, ex, hx⟩ := row_int cellTypes63 hrow (i := 0) rfl Try.underlying3 (by omega)
  obtain ⟨y, ey, hy⟩ := row_int cellTypes63 hrow (i := 1) rfl Try.underlying3 (by omega)
  obtain ⟨l⟩ := cs
  match l, hsz with
  | [u, v], _ =>
    simp at ex ey
    subst ex ey
    exact ⟨x, y, rfl, wf_i64 hx, wf_i64 hy⟩

/-- The first of it: enabled, and the bits set. -/
def startE (a : Inf) (n : Int) : ES := ((ES.new a).enable true 0).mux n
def mxOf (n : Int) : Int := if okMux n then n else 0
theorem start_mt {a : Inf} {n : Int} (hr : -9223372036854775808 ≤ n ∧ n ≤ 9223372036854775807) : Mt (startE a n) a (mxOf n) ∧ 0 ≤ mxOf n ∧ mxOf n ≤ 255 := by
  have hp : ((ES.new a).enable true 0).p.fine := by
    show Inf.fine ⟨0, 0, 0, 0, 0, 0, 0, 0, 0, 0, bits .or .i64 (bits .andNot .i64 0 8) 2⟩
    exact ⟨by decide, by decide, by decide, by decide, by decide +kernel⟩
  unfold startE mxOf ES.mux
  cases hok : okMux n
  · exact ⟨⟨rfl, rfl, hp, .inl rfl⟩, by simp⟩
  · exact ⟨⟨rfl, rfl, hp, .inl rfl⟩, small_mux hr hok⟩
end Go.Proofs.Ytooieocfgifpgaa

/-
  ether's read and Decode, of a frame's bytes.
-/
import Derived.Test.YtehhldpmhlocdaaDoorTpE
import Derived.Deep.RegionHeld3
import Derived.Recover
import Derived.Defers
import Derived.Laws.ResultCell
namespace Go.Proofs.YtehhldpmhlocdaaDoor
open Go.RowKit Go.WideShapes Go.ChangeShapes
set_option linter.unusedVariables false

theorem num2_two {n : Int} (h : 0 ≤ n ∧ n ≤ 65535) : num2 (byteOf (n / 256)) (byteOf n) = n := by
  unfold num2
  rw [byteOf_toNat, byteOf_toNat]
  omega
theorem num_two (rb B : Nat) (n : Int) (zs : List UInt8) (w : World) (hn : 0 ≤ n ∧ n ≤ 65535) (hr : RdAt w rb B (two n ++ zs)) :
    Calls Tryd.prog 26 #[.pointer (some ⟨rb, 0, none⟩)] w fun e w' => e = .returned (.int .i64 n) ∧ RdAt w' rb B zs ∧ Frm w w' rb := by
  refine (number_any rb B (two n ++ zs) w hr).mono fun e w' h => ?_
  rcases h with ⟨x, y, zs', h1, h2, h3, h4⟩ | ⟨h, -⟩
  · simp only [two, List.cons_append, List.nil_append, List.cons.injEq] at h1
    obtain ⟨rfl, rfl, rfl⟩ := h1
    rw [num2_two hn] at h2
    exact ⟨h2, h3, h4⟩
  · simp [two] at h
    omega
theorem and_low {n : Int} (h : 0 ≤ n ∧ n ≤ 65535) : bits .and .i64 n 8191 = n % 8192 := by
  obtain ⟨a, rfl⟩ := Int.eq_ofNat_of_zero_le h.1
  have e1 : BitVec.ofInt 64 (a : Int) = BitVec.ofNat 64 a := by
    apply BitVec.eq_of_toNat_eq; rw [BitVec.toNat_ofInt, BitVec.toNat_ofNat]; omega
  have e2 : BitVec.ofInt 64 (8191 : Int) = BitVec.ofNat 64 8191 := by decide
  have e3 : a &&& 8191 = a % 8192 := Nat.and_two_pow_sub_one_eq_mod a 13
  show IntKind.i64.wrap ((BitVec.ofInt 64 (a : Int) &&& BitVec.ofInt 64 (8191 : Int)).toNat : Int) = _
  rw [e1, e2, BitVec.toNat_and, BitVec.toNat_ofNat, BitVec.toNat_ofNat, Nat.mod_eq_of_lt (by omega), Nat.mod_eq_of_lt (by omega), e3, IntKind.wrap_i64]
  omega

theorem clone_any (A : Option Addr) (cap : Nat) (bd : List UInt8) (w : World) (B : Nat) (hs : SrcAt w B A cap bd) (hl : bd.length ≤ 100000) :
    Calls Tryd.prog 27 #[.slice A bd.length cap] w fun e w' => ∃ A' c', e = .returned (.slice A' bd.length c') ∧ Below w.heap.size w w' := by
  cases A with
  | none =>
    have h0 : bd = [] := by
      obtain ⟨-, -, h3⟩ := hs
      rcases h3 with h3 | ⟨b, o, h3, -⟩
      · exact h3
      · cases h3
    subst h0
    refine (Tryd.bytes_Clone_nil 0 cap w).mono ?_
    rintro e w' ⟨rfl, rfl⟩
    exact ⟨none, 0, rfl, Below.refl _ _⟩
  | some a =>
    refine (Tryd.bytes_Clone_at a bd.length cap (bd.map fun u => (u.toNat : Int)) w (by simp) (by omega) (fun i hi => ?_)).mono ?_
    · obtain ⟨-, -, h3⟩ := hs
      rcases h3 with h3 | ⟨b, o, h3, hb, hc⟩
      · rw [h3] at hi; simp at hi
      · injection h3 with h3
        subst h3
        rw [Lib.addr_add, hc i hi]
        simp [hi]
    · rintro e w' ⟨v, rfl, hown, hne, hb⟩
      rcases hown.2 with ⟨h0, -⟩ | ⟨g, c, cur, h0, -⟩
      · exact absurd h0 hne
      · exact ⟨some ⟨g, 0, none⟩, c, by rw [h0], hb⟩

theorem fra_ones (y : Fra) : ∀ v ∈ (#[.int .u8 (y.d0.toNat : Int), .int .u8 (y.d1.toNat : Int), .int .u8 (y.d2.toNat : Int), .int .u8 (y.d3.toNat : Int), .int .u8 (y.d4.toNat : Int), .int .u8 (y.d5.toNat : Int), .int .u8 (y.s0.toNat : Int), .int .u8 (y.s1.toNat : Int), .int .u8 (y.s2.toNat : Int), .int .u8 (y.s3.toNat : Int), .int .u8 (y.s4.toNat : Int), .int .u8 (y.s5.toNat : Int), .bool y.tg, .int .i64 y.vl, .int .i64 y.pr, .int .i64 y.ty, .slice y.A y.n y.cap] : Array Value).toList, v.oneCell' = true := by simp [Value.oneCell']
theorem assert_nil (w : World) : (Instr.typeAssert .nilIface 20 64 true).run Tryd.prog w = .ok (.tuple #[.agg #[], .bool false]) w := by kernel_rfl
set_option maxHeartbeats 1000000 in
theorem catch_idle (f g : Nat) (w : World) :
    CallsD Tryd.prog 24 #[.pointer (some ⟨f, 0, none⟩), .pointer (some ⟨g, 0, none⟩)] .returning w fun e u' w' => e = .returned (.tuple #[]) ∧ u' = .returning ∧ w' = w.alloc (.cells #[] 64) := by
  refine callsD_of_wpS Tryd.func24 rfl fun c₀ cs hu => ?_
  apply wpS_seq
  apply wpS_region
  simp [wpOpsS, go_sem, recoverD, hu, Tryd.ntmps24, Exit.thenS, assert_nil, Array.replicate, List.replicate]
  apply wpS_seq
  apply wpS_region
  simp [wpOpsS, go_sem, Exit.thenS]
  refine wpS_cond (t := false) (by simp [Act.eval]) ?_
  simp only [Bool.false_eq_true, if_false]
  refine wpS_of_wp (wp_skip ?_)
  cases c₀
  simp_all [bodyPostS, results, Tryd.results24]

def Fra.zero : Fra := ⟨0, 0, 0, 0, 0, 0, 0, 0, 0, 0, 0, 0, false, 0, 0, 0, none, 0, 0⟩
def Fra.one (x : Fra) : Fra := { Fra.zero with d0 := x.d0, d1 := x.d1, d2 := x.d2, d3 := x.d3, d4 := x.d4, d5 := x.d5 }
def Fra.snd (x : Fra) : Fra := { x.one with s0 := x.s0, s1 := x.s1, s2 := x.s2, s3 := x.s3, s4 := x.s4, s5 := x.s5 }
theorem res_read {fn : Func} {a b : Tmp} (h : fn.results = #[.cell a 26, .cell b 4]) (tmps : Array Value) (w : World) (p q : Nat) (z : Fra) (t : Bool) (hp : tmps.getD a undef = .pointer (some ⟨p, 0, none⟩)) (hq : tmps.getD b undef = .pointer (some ⟨q, 0, none⟩))
    (hg : w.heap[p]? = some (.cells #[.int .u8 (z.d0.toNat : Int), .int .u8 (z.d1.toNat : Int), .int .u8 (z.d2.toNat : Int), .int .u8 (z.d3.toNat : Int), .int .u8 (z.d4.toNat : Int), .int .u8 (z.d5.toNat : Int), .int .u8 (z.s0.toNat : Int), .int .u8 (z.s1.toNat : Int), .int .u8 (z.s2.toNat : Int), .int .u8 (z.s3.toNat : Int), .int .u8 (z.s4.toNat : Int), .int .u8 (z.s5.toNat : Int), .bool z.tg, .int .i64 z.vl, .int .i64 z.pr, .int .i64 z.ty, .slice z.A z.n z.cap] 26 (0, 0))) (hc : w.cell? ⟨q, 0, none⟩ = some (.bool t)) : (results fn tmps).run Tryd.prog w = .ok (.tuple #[.agg #[.int .u8 (z.d0.toNat : Int), .int .u8 (z.d1.toNat : Int), .int .u8 (z.d2.toNat : Int), .int .u8 (z.d3.toNat : Int), .int .u8 (z.d4.toNat : Int), .int .u8 (z.d5.toNat : Int), .int .u8 (z.s0.toNat : Int), .int .u8 (z.s1.toNat : Int), .int .u8 (z.s2.toNat : Int), .int .u8 (z.s3.toNat : Int), .int .u8 (z.s4.toNat : Int), .int .u8 (z.s5.toNat : Int), .bool z.tg, .int .i64 z.vl, .int .i64 z.pr, .int .i64 z.ty, .slice z.A z.n z.cap], .bool t]) w := by
  have hp' : tmps[a]?.getD undef = .pointer (some ⟨p, 0, none⟩) := by simpa using hp
  have hq' : tmps[b]?.getD undef = .pointer (some ⟨q, 0, none⟩) := by simpa using hq
  have hi : (Tryd.prog.info? 26).map (·.size) = some (#[.int .u8 (z.d0.toNat : Int), .int .u8 (z.d1.toNat : Int), .int .u8 (z.d2.toNat : Int), .int .u8 (z.d3.toNat : Int), .int .u8 (z.d4.toNat : Int), .int .u8 (z.d5.toNat : Int), .int .u8 (z.s0.toNat : Int), .int .u8 (z.s1.toNat : Int), .int .u8 (z.s2.toNat : Int), .int .u8 (z.s3.toNat : Int), .int .u8 (z.s4.toNat : Int), .int .u8 (z.s5.toNat : Int), .bool z.tg, .int .i64 z.vl, .int .i64 z.pr, .int .i64 z.ty, .slice z.A z.n z.cap] : Array Value).size := by kernel_rfl
  have l1 := run_loadVar_row w p 26 26 #[.int .u8 (z.d0.toNat : Int), .int .u8 (z.d1.toNat : Int), .int .u8 (z.d2.toNat : Int), .int .u8 (z.d3.toNat : Int), .int .u8 (z.d4.toNat : Int), .int .u8 (z.d5.toNat : Int), .int .u8 (z.s0.toNat : Int), .int .u8 (z.s1.toNat : Int), .int .u8 (z.s2.toNat : Int), .int .u8 (z.s3.toNat : Int), .int .u8 (z.s4.toNat : Int), .int .u8 (z.s5.toNat : Int), .bool z.tg, .int .i64 z.vl, .int .i64 z.pr, .int .i64 z.ty, .slice z.A z.n z.cap] (0, 0) _ hg Tryd.underlying26 rfl hi
  have l2 : (loadVar 4 ⟨q, 0, none⟩).run Tryd.prog w = .ok (.bool t) w := by simp [go_sem, hc]
  simp [results, h, hp', hq', asAddr, l1, l2]
theorem two_range {x : Fra} (h : rightF x = true) (ht : x.tg = true) : 0 ≤ x.pr * 8192 + x.vl ∧ x.pr * 8192 + x.vl ≤ 65535 := by
  have := vlOk_of h ht
  omega

set_option maxRecDepth 100000 in
set_option maxHeartbeats 16000000 in
theorem read_any (A : Option Addr) (cap N : Nat) (x : Fra) (bd : List UInt8) (w : World) (hR : rightF x = true) (hN : (encF x bd).length = N) (hb : bd.length = x.n) (hs : SrcAt w w.heap.size A cap (encF x bd)) :
    Calls Tryd.prog 19 #[.slice A N cap] w fun e w' => ∃ A' c', e = .returned (.tuple #[(fun y : Fra => (.agg #[.int .u8 (y.d0.toNat : Int), .int .u8 (y.d1.toNat : Int), .int .u8 (y.d2.toNat : Int), .int .u8 (y.d3.toNat : Int), .int .u8 (y.d4.toNat : Int), .int .u8 (y.d5.toNat : Int), .int .u8 (y.s0.toNat : Int), .int .u8 (y.s1.toNat : Int), .int .u8 (y.s2.toNat : Int), .int .u8 (y.s3.toNat : Int), .int .u8 (y.s4.toNat : Int), .int .u8 (y.s5.toNat : Int), .bool y.tg, .int .i64 y.vl, .int .i64 y.pr, .int .i64 y.ty, .slice y.A y.n y.cap] : Value)) { x with A := A', cap := c' }, .bool true]) ∧ Below w.heap.size w w' := by
  have hmf : ∀ (fn : Fn) (first cap : Array Value) (w : World), (Instr.makeFunc fn first cap).run Tryd.prog w = .ok (.func fn first cap) w := fun _ _ _ _ => rfl
  obtain ⟨p, hp⟩ : ∃ p, p = w.heap.size := ⟨_, rfl⟩
  obtain ⟨u0, hu0⟩ : ∃ u, u = ((w.alloc (.cells #[.int .u8 0, .int .u8 0, .int .u8 0, .int .u8 0, .int .u8 0, .int .u8 0, .int .u8 0, .int .u8 0, .int .u8 0, .int .u8 0, .int .u8 0, .int .u8 0, .bool false, .int .i64 0, .int .i64 0, .int .i64 0, .slice none 0 0] 26)).alloc (.cells #[.bool false] 4)).alloc (.cells #[.slice A N cap] 66) := ⟨_, rfl⟩
  have HB0 := hide (show Below p w u0 by rw [hu0, hp]; exact (((Below.refl w.heap.size w).alloc (Nat.le_refl _) _).alloc (by simp) _).alloc (by simp; omega) _)
  have HP0 := hide (show u0.heap[p]? = some (.cells ((fun y : Fra => (#[.int .u8 (y.d0.toNat : Int), .int .u8 (y.d1.toNat : Int), .int .u8 (y.d2.toNat : Int), .int .u8 (y.d3.toNat : Int), .int .u8 (y.d4.toNat : Int), .int .u8 (y.d5.toNat : Int), .int .u8 (y.s0.toNat : Int), .int .u8 (y.s1.toNat : Int), .int .u8 (y.s2.toNat : Int), .int .u8 (y.s3.toNat : Int), .int .u8 (y.s4.toNat : Int), .int .u8 (y.s5.toNat : Int), .bool y.tg, .int .i64 y.vl, .int .i64 y.pr, .int .i64 y.ty, .slice y.A y.n y.cap] : Array Value)) Fra.zero) 26 (0, 0)) by
    rw [hu0, hp]; exact (Below.heap_alloc _ _ _ (by simp; omega)).trans ((Below.heap_alloc _ _ _ (by simp)).trans (heap_alloc_new w _)))
  have HQ0 := hide (show u0.heap[p + 1]? = some (.cells #[.bool false] 4 (0, 0)) by
    rw [hu0, hp]; exact (Below.heap_alloc _ _ _ (by simp)).trans (by simpa using heap_alloc_new (w.alloc (.cells #[.int .u8 0, .int .u8 0, .int .u8 0, .int .u8 0, .int .u8 0, .int .u8 0, .int .u8 0, .int .u8 0, .int .u8 0, .int .u8 0, .int .u8 0, .int .u8 0, .bool false, .int .i64 0, .int .i64 0, .int .i64 0, .slice none 0 0] 26)) (.cells #[.bool false] 4)))
  have HR0 := hide (show RdAt u0 (p + 1 + 1) p (x.d0 :: x.d1 :: x.d2 :: x.d3 :: x.d4 :: x.d5 :: ([x.s0, x.s1, x.s2, x.s3, x.s4, x.s5] ++ (tagF x ++ (two x.ty ++ bd)))) by
    have e : (x.d0 :: x.d1 :: x.d2 :: x.d3 :: x.d4 :: x.d5 :: ([x.s0, x.s1, x.s2, x.s3, x.s4, x.s5] ++ (tagF x ++ (two x.ty ++ bd)))) = encF x bd := by unfold encF; simp
    rw [e]
    exact ⟨by omega, A, cap, by rw [hN, hu0, hp]; simpa using heap_alloc_new ((w.alloc (.cells #[.int .u8 0, .int .u8 0, .int .u8 0, .int .u8 0, .int .u8 0, .int .u8 0, .int .u8 0, .int .u8 0, .int .u8 0, .int .u8 0, .int .u8 0, .int .u8 0, .bool false, .int .i64 0, .int .i64 0, .int .i64 0, .slice none 0 0] 26)).alloc (.cells #[.bool false] 4)) (.cells #[.slice A N cap] 66), by rw [hp] at HB0 ⊢; exact hs.below HB0.out (Nat.le_refl _)⟩)
  have HU0 := hide hu0; have HPp := hide hp; have HRt := hide hR; have HBd := hide hb
  have hpw : p ≤ w.heap.size := by omega
  clear hu0 hs hN hR hb
  go_enter_defers Tryd.func19, Tryd.ntmps19
  clear hp
  go_wp2_with fail
  rw [← HU0.out]
  rw [← HPp.out]
  clear HU0
  go_region_held3 (fun _ => True) (trivial) (first
    | (refine step_copy6 rfl (.tmp 9) (.tmp 10) 24 24 rfl 5 Tryd.underlying24 (by kernel_rfl) p 0 6 6 ⟨b1, o1, none⟩ 6 cap1 rfl rfl _ 26 HP1.out (bcells [x.d0, x.d1, x.d2, x.d3, x.d4, x.d5]) rfl HS1.out (by simp [bcells]) (bcells_one _) ((fun y : Fra => (#[.int .u8 (y.d0.toNat : Int), .int .u8 (y.d1.toNat : Int), .int .u8 (y.d2.toNat : Int), .int .u8 (y.d3.toNat : Int), .int .u8 (y.d4.toNat : Int), .int .u8 (y.d5.toNat : Int), .int .u8 (y.s0.toNat : Int), .int .u8 (y.s1.toNat : Int), .int .u8 (y.s2.toNat : Int), .int .u8 (y.s3.toNat : Int), .int .u8 (y.s4.toNat : Int), .int .u8 (y.s5.toNat : Int), .bool y.tg, .int .i64 y.vl, .int .i64 y.pr, .int .i64 y.ty, .slice y.A y.n y.cap] : Array Value)) x.one) rfl ?_; intro u2 hf2 hg2; have HF2a := hide hf2; have HP2 := hide hg2; clear hf2 hg2)
    | (go_simp; go_at_call 25; refine (taken_ok (p + 1 + 1) p 6 _ _ (show RdAt u0.drew (p + 1 + 1) p _ from HR0.out) (by decide) (by decide) (by simp)).mono ?_; rintro e u1 ⟨b1, o1, cap1, rfl, hb1, hs1, hd1, hf1⟩; have HF1a := hide hf1; have HR1 := hide (show RdAt u1 (p + 1 + 1) p ([x.s0, x.s1, x.s2, x.s3, x.s4, x.s5] ++ (tagF x ++ (two x.ty ++ bd))) from hd1); have HP1 := hide (hf1.keep (show u0.drew.heap[p]? = _ from HP0.out) (by omega)); have HQ1 := hide (hf1.keep (show u0.drew.heap[p + 1]? = _ from HQ0.out) (by omega)); have HS1 := hide (six_laid hs1); clear hf1 hd1 hs1))
  have HR2 := hide (HR1.out.frm HF2a.out (by omega) (by omega))
  have HQ2 := hide (HF2a.out.keep HQ1.out (by omega))
  have hz0 : p ≤ u0.heap.size := by have := HB0.out.size; omega
  have hz1 : p ≤ u1.heap.size := by have := HF1a.out.size; have h : u0.drew.heap.size = u0.heap.size := rfl; omega
  have HB2 := hide ((HB0.out.trans (show Below p u0 u1 from ⟨HF1a.out.os, HF1a.out.tape, HF1a.out.output, HF1a.out.size, fun k hk => HF1a.out.block k (by show k < u0.heap.size; omega) (by intro e; injection e with e; omega)⟩)).trans (HF2a.out.below (Nat.le_refl _) hz1))
  have hz2 : p ≤ u2.heap.size := by have := HB2.out.size; omega
  clear HF1a HF2a HR1 HP1 HQ1 HS1 HR0 HP0 HQ0 HB0 hz0 hz1
  simp only [Exit.then]
  go_wp2_with fail
  go_region_held3 (fun _ => True) (trivial) (first
    | (refine step_copy6 rfl (.tmp 13) (.tmp 14) 24 24 rfl 5 Tryd.underlying24 (by kernel_rfl) p 6 6 6 ⟨b3, o3, none⟩ 6 cap3 rfl rfl _ 26 HP3.out (bcells [x.s0, x.s1, x.s2, x.s3, x.s4, x.s5]) rfl HS3.out (by simp [bcells]) (bcells_one _) ((fun y : Fra => (#[.int .u8 (y.d0.toNat : Int), .int .u8 (y.d1.toNat : Int), .int .u8 (y.d2.toNat : Int), .int .u8 (y.d3.toNat : Int), .int .u8 (y.d4.toNat : Int), .int .u8 (y.d5.toNat : Int), .int .u8 (y.s0.toNat : Int), .int .u8 (y.s1.toNat : Int), .int .u8 (y.s2.toNat : Int), .int .u8 (y.s3.toNat : Int), .int .u8 (y.s4.toNat : Int), .int .u8 (y.s5.toNat : Int), .bool y.tg, .int .i64 y.vl, .int .i64 y.pr, .int .i64 y.ty, .slice y.A y.n y.cap] : Array Value)) x.snd) rfl ?_; intro u4 hf4 hg4; have HF4a := hide hf4; have HP4 := hide hg4; clear hf4 hg4)
    | (go_simp; go_at_call 25; refine (taken_ok (p + 1 + 1) p 6 _ _ (show RdAt u2.drew (p + 1 + 1) p _ from HR2.out) (by decide) (by decide) (by simp)).mono ?_; rintro e u3 ⟨b3, o3, cap3, rfl, hb3, hs3, hd3, hf3⟩; have HF3a := hide hf3; have HR3 := hide (show RdAt u3 (p + 1 + 1) p (tagF x ++ (two x.ty ++ bd)) from hd3); have HP3 := hide (hf3.keep (show u2.drew.heap[p]? = _ from HP2.out) (by omega)); have HQ3 := hide (hf3.keep (show u2.drew.heap[p + 1]? = _ from HQ2.out) (by omega)); have HS3 := hide (six_laid hs3); clear hf3 hd3 hs3))
  have HR4 := hide (HR3.out.frm HF4a.out (by omega) (by omega))
  have HQ4 := hide (HF4a.out.keep HQ3.out (by omega))
  have hz3 : p ≤ u3.heap.size := by have := HF3a.out.size; have h : u2.drew.heap.size = u2.heap.size := rfl; omega
  have HB4 := hide ((HB2.out.trans (show Below p u2 u3 from ⟨HF3a.out.os, HF3a.out.tape, HF3a.out.output, HF3a.out.size, fun k hk => HF3a.out.block k (by show k < u2.heap.size; omega) (by intro e; injection e with e; omega)⟩)).trans (HF4a.out.below (Nat.le_refl _) hz3))
  have hz4 : p ≤ u4.heap.size := by have := HB4.out.size; omega
  clear HF3a HF4a HR3 HP3 HQ3 HS3 HR2 HP2 HQ2 HB2 hz2 hz3
  simp only [Exit.then]
  go_wp2_with fail
  cases htg : x.tg
  · have HG := hide htg
    have HR4 := hide (show RdAt u4 (p + 1 + 1) p (two x.ty ++ bd) by have h := HR4.out; unfold tagF at h; rw [htg] at h; exact h)
    clear htg
    have HX := num_two (p + 1 + 1) p (x.ty) (bd) u4 (by have := tyOk_of HRt.out; omega) HR4.out
    with_reducible refine HX.mono ?_
    clear HX
    rintro e u5 ⟨rfl, hr5, hf5⟩
    have HR5 := hide hr5; have HP5 := hide (hf5.keep HP4.out (by omega)); have HQ5 := hide (hf5.keep HQ4.out (by omega)); have HB5 := hide (HB4.out.trans (hf5.below (by omega) hz4))
    have hz5 : p ≤ u5.heap.size := by have := HB5.out.size; omega
    clear hr5 hf5 HR4 HP4 HQ4 HB4 hz4
    have c15 : u5.cell? ⟨p, 15, none⟩ = some (.int .i64 0) := cell_of_row u5 p 15 _ 26 (0, 0) HP5.out
    have z15 : u5.frozen? ⟨p, 15, none⟩ = false := frozen_of_row u5 p 15 _ 26 HP5.out
    obtain ⟨u6, hu6⟩ : ∃ u, u = u5.setCell ⟨p, 15, none⟩ (.int .i64 x.ty) := ⟨_, rfl⟩
    have HP6 := hide (show u6.heap[p]? = some (.cells (((fun y : Fra => (#[.int .u8 (y.d0.toNat : Int), .int .u8 (y.d1.toNat : Int), .int .u8 (y.d2.toNat : Int), .int .u8 (y.d3.toNat : Int), .int .u8 (y.d4.toNat : Int), .int .u8 (y.d5.toNat : Int), .int .u8 (y.s0.toNat : Int), .int .u8 (y.s1.toNat : Int), .int .u8 (y.s2.toNat : Int), .int .u8 (y.s3.toNat : Int), .int .u8 (y.s4.toNat : Int), .int .u8 (y.s5.toNat : Int), .bool y.tg, .int .i64 y.vl, .int .i64 y.pr, .int .i64 y.ty, .slice y.A y.n y.cap] : Array Value)) { x.snd with ty := x.ty })) 26 (0, 0)) by rw [hu6]; exact heap_setCell_same u5 p 15 _ 26 (.int .i64 x.ty) (HP5.out))
    have hf6 : Frm u5 u6 p := by rw [hu6]; exact ((Frm.refl u5 p).put 15 (.int .i64 x.ty))
    have HR6 := hide (HR5.out.frm hf6 (Nat.le_refl _) (by omega)); have HQ6 := hide (hf6.keep HQ5.out (by omega)); have HB6 := hide (HB5.out.trans (show Below p u5 u6 by rw [hu6]; exact ((Below.refl p u5).setCell (p := ⟨p, 15, none⟩) (Nat.le_refl _) (.int .i64 x.ty))))
    have hz6 : p ≤ u6.heap.size := by have := HB6.out.size; omega
    have HE6 := hide hu6
    clear hu6 hf6
    have hne : ¬ x.ty = 33024 := (tyOk_of HRt.out).2.2.1
    obtain ⟨A8, c8, h8, hs8⟩ := HR6.out.2
    have r8 : u6.cell? ⟨p + 1 + 1, 0, none⟩ = some (.slice A8 bd.length c8) := cell_of_row u6 _ 0 _ 66 (0, 0) h8
    have HX := hide (clone_any A8 c8 bd u6 p hs8 (by have := HBd.out; have := (tyOk_of HRt.out).2.2.2; omega))
    clear h8 hs8
    rw [HE6.out] at r8
    go_wp2_with fail
    rw [← HE6.out]
    clear c15 z15 hne
    with_reducible refine HX.out.mono ?_
    rintro e u9 ⟨A9, c9, rfl, hb9⟩
    have hpk : p < u6.heap.size := (Array.getElem?_eq_some_iff.1 HP6.out).1
    have hqk : p + 1 < u6.heap.size := (Array.getElem?_eq_some_iff.1 HQ6.out).1
    have HP9 := hide ((hb9.block p hpk).trans HP6.out); have HQ9 := hide ((hb9.block (p + 1) hqk).trans HQ6.out); have HB9 := hide (HB6.out.trans (hb9.mono hz6))
    have hz9 : p ≤ u9.heap.size := by have := HB9.out.size; omega
    clear hb9 HX r8 HR6 HP6 HQ6 HB6 hz6
    have c16 : u9.cell? ⟨p, 16, none⟩ = some (.slice none 0 0) := cell_of_row u9 p 16 _ 26 (0, 0) HP9.out
    have z16 : u9.frozen? ⟨p, 16, none⟩ = false := frozen_of_row u9 p 16 _ 26 HP9.out
    have HY := hide (show (({ ({ x.snd with ty := x.ty } : Fra) with A := A9, n := bd.length, cap := c9 } : Fra)) = { x with A := A9, cap := c9 } by have h1 := untag_of HRt.out HG.out; have h2 := HBd.out; have h3 := HG.out; simp only [Fra.snd, Fra.one, Fra.zero, h1.1, h1.2, h2, h3])
    obtain ⟨z, hz⟩ : ∃ z : Fra, z = { x with A := A9, cap := c9 } := ⟨_, rfl⟩
    have HPa := hide (show (u9.setCell ⟨p, 16, none⟩ (.slice A9 bd.length c9)).heap[p]? = some (.cells #[.int .u8 (z.d0.toNat : Int), .int .u8 (z.d1.toNat : Int), .int .u8 (z.d2.toNat : Int), .int .u8 (z.d3.toNat : Int), .int .u8 (z.d4.toNat : Int), .int .u8 (z.d5.toNat : Int), .int .u8 (z.s0.toNat : Int), .int .u8 (z.s1.toNat : Int), .int .u8 (z.s2.toNat : Int), .int .u8 (z.s3.toNat : Int), .int .u8 (z.s4.toNat : Int), .int .u8 (z.s5.toNat : Int), .bool z.tg, .int .i64 z.vl, .int .i64 z.pr, .int .i64 z.ty, .slice z.A z.n z.cap] 26 (0, 0)) by rw [hz, ← HY.out]; exact heap_setCell_same u9 p 16 _ 26 _ HP9.out)
    have hfa : Frm u9 (u9.setCell ⟨p, 16, none⟩ (.slice A9 bd.length c9)) p := (Frm.refl u9 p).put 16 _
    have HQa := hide (hfa.keep HQ9.out (by omega)); have HBa := hide (HB9.out.trans ((Below.refl p u9).setCell (p := ⟨p, 16, none⟩) (Nat.le_refl _) (.slice A9 bd.length c9)))
    have HZ := hide hz
    clear hfa hz HP9 HQ9 HB9
    go_wp2_with (first | (refine wpList_load_part rfl 26 (.tmp 2) rfl p 0 rfl 26 _ #[.int .u8 (z.d0.toNat : Int), .int .u8 (z.d1.toNat : Int), .int .u8 (z.d2.toNat : Int), .int .u8 (z.d3.toNat : Int), .int .u8 (z.d4.toNat : Int), .int .u8 (z.d5.toNat : Int), .int .u8 (z.s0.toNat : Int), .int .u8 (z.s1.toNat : Int), .int .u8 (z.s2.toNat : Int), .int .u8 (z.s3.toNat : Int), .int .u8 (z.s4.toNat : Int), .int .u8 (z.s5.toNat : Int), .bool z.tg, .int .i64 z.vl, .int .i64 z.pr, .int .i64 z.ty, .slice z.A z.n z.cap] (0, 0) _ HPa.out Tryd.underlying26 rfl (by kernel_rfl) rfl ?_) | (refine wpList_store_at rfl rfl p 0 #[.int .u8 (z.d0.toNat : Int), .int .u8 (z.d1.toNat : Int), .int .u8 (z.d2.toNat : Int), .int .u8 (z.d3.toNat : Int), .int .u8 (z.d4.toNat : Int), .int .u8 (z.d5.toNat : Int), .int .u8 (z.s0.toNat : Int), .int .u8 (z.s1.toNat : Int), .int .u8 (z.s2.toNat : Int), .int .u8 (z.s3.toNat : Int), .int .u8 (z.s4.toNat : Int), .int .u8 (z.s5.toNat : Int), .bool z.tg, .int .i64 z.vl, .int .i64 z.pr, .int .i64 z.ty, .slice z.A z.n z.cap] rfl rfl 26 HPa.out (by kernel_rfl) (by simp) (fra_ones z) #[.int .u8 (z.d0.toNat : Int), .int .u8 (z.d1.toNat : Int), .int .u8 (z.d2.toNat : Int), .int .u8 (z.d3.toNat : Int), .int .u8 (z.d4.toNat : Int), .int .u8 (z.d5.toNat : Int), .int .u8 (z.s0.toNat : Int), .int .u8 (z.s1.toNat : Int), .int .u8 (z.s2.toNat : Int), .int .u8 (z.s3.toNat : Int), .int .u8 (z.s4.toNat : Int), .int .u8 (z.s5.toNat : Int), .bool z.tg, .int .i64 z.vl, .int .i64 z.pr, .int .i64 z.ty, .slice z.A z.n z.cap] rfl ?_; intro ub hfb hbb; have HPb := hide hbb; have HQb := hide (hfb.keep HQa.out (by omega)); have HBb := hide (HBa.out.trans (hfb.below (Nat.le_refl _) (by have := HBa.out.size; omega))); have q0 := cell_of_row ub (p + 1) 0 _ 4 (0, 0) HQb.out; have q1 := frozen_of_row ub (p + 1) 0 _ 4 HQb.out; simp only [List.getElem?_toArray, List.getElem?_cons_zero] at q0; clear hfb hbb))
    refine leaves_cons (f := 24) (args := #[.pointer (some ⟨p, 0, none⟩), .pointer (some ⟨p + 1, 0, none⟩)]) (by simp) (by simp [go_sem]) ?_
    refine (catch_idle p (p + 1) _).mono ?_
    rintro e u' w'' ⟨rfl, rfl, rfl⟩
    have hfc : Frm ub (ub.setCell ⟨p + 1, 0, none⟩ (.bool true)) (p + 1) := (Frm.refl ub (p + 1)).put 0 _
    have hPc := (hfc.alloc (.cells #[] 64)).keep HPb.out (by omega)
    have hqb : p + 1 < ub.heap.size := (Array.getElem?_eq_some_iff.1 HQb.out).1
    have hQc : ((ub.setCell ⟨p + 1, 0, none⟩ (.bool true)).alloc (.cells #[] 64)).cell? ⟨p + 1, 0, none⟩ = some (.bool true) := cell_of_row _ (p + 1) 0 _ 4 (0, 0) ((Below.heap_alloc _ _ _ (by simp; omega)).trans (heap_setCell_same ub (p + 1) 0 _ 4 (.bool true) HQb.out))
    refine ⟨_, res_read rfl _ _ p (p + 1) z true rfl rfl hPc hQc, ?_⟩
    rw [HZ.out]
    have hbz := (HBb.out.setCell (p := ⟨p + 1, 0, none⟩) (by show p ≤ p + 1; omega) (.bool true)).alloc (by have := HBb.out.size; simp; omega) (.cells #[] 64)
    exact ⟨A9, c9, rfl, by rw [← HPp.out]; exact hbz⟩
  · have HG := hide htg
    have HV := hide (vlOk_of HRt.out htg)
    have HR4 := hide (show RdAt u4 (p + 1 + 1) p (two 33024 ++ (two (x.pr * 8192 + x.vl) ++ (two x.ty ++ bd))) by have h := HR4.out; unfold tagF at h; rw [htg] at h; simpa using h)
    clear htg
    have HX := num_two (p + 1 + 1) p (33024) (two (x.pr * 8192 + x.vl) ++ (two x.ty ++ bd)) u4 (by decide) HR4.out
    with_reducible refine HX.mono ?_
    clear HX
    rintro e u5 ⟨rfl, hr5, hf5⟩
    have HR5 := hide hr5; have HP5 := hide (hf5.keep HP4.out (by omega)); have HQ5 := hide (hf5.keep HQ4.out (by omega)); have HB5 := hide (HB4.out.trans (hf5.below (by omega) hz4))
    have hz5 : p ≤ u5.heap.size := by have := HB5.out.size; omega
    clear hr5 hf5 HR4 HP4 HQ4 HB4 hz4
    have c15 : u5.cell? ⟨p, 15, none⟩ = some (.int .i64 0) := cell_of_row u5 p 15 _ 26 (0, 0) HP5.out
    have z15 : u5.frozen? ⟨p, 15, none⟩ = false := frozen_of_row u5 p 15 _ 26 HP5.out
    obtain ⟨u6, hu6⟩ : ∃ u, u = u5.setCell ⟨p, 15, none⟩ (.int .i64 33024) := ⟨_, rfl⟩
    have HP6 := hide (show u6.heap[p]? = some (.cells (((fun y : Fra => (#[.int .u8 (y.d0.toNat : Int), .int .u8 (y.d1.toNat : Int), .int .u8 (y.d2.toNat : Int), .int .u8 (y.d3.toNat : Int), .int .u8 (y.d4.toNat : Int), .int .u8 (y.d5.toNat : Int), .int .u8 (y.s0.toNat : Int), .int .u8 (y.s1.toNat : Int), .int .u8 (y.s2.toNat : Int), .int .u8 (y.s3.toNat : Int), .int .u8 (y.s4.toNat : Int), .int .u8 (y.s5.toNat : Int), .bool y.tg, .int .i64 y.vl, .int .i64 y.pr, .int .i64 y.ty, .slice y.A y.n y.cap] : Array Value)) { x.snd with ty := 33024 })) 26 (0, 0)) by rw [hu6]; exact heap_setCell_same u5 p 15 _ 26 (.int .i64 33024) (HP5.out))
    have hf6 : Frm u5 u6 p := by rw [hu6]; exact ((Frm.refl u5 p).put 15 (.int .i64 33024))
    have HR6 := hide (HR5.out.frm hf6 (Nat.le_refl _) (by omega)); have HQ6 := hide (hf6.keep HQ5.out (by omega)); have HB6 := hide (HB5.out.trans (show Below p u5 u6 by rw [hu6]; exact ((Below.refl p u5).setCell (p := ⟨p, 15, none⟩) (Nat.le_refl _) (.int .i64 33024))))
    have hz6 : p ≤ u6.heap.size := by have := HB6.out.size; omega
    have HE6 := hide hu6
    clear hu6 hf6
    go_wp2_with fail
    rw [← HE6.out]
    clear c15 z15 HE6 HR5 HP5 HQ5 HB5 hz5
    have HX := num_two (p + 1 + 1) p (x.pr * 8192 + x.vl) (two x.ty ++ bd) u6 (two_range HRt.out HG.out) HR6.out
    with_reducible refine HX.mono ?_
    clear HX
    rintro e u7 ⟨rfl, hr7, hf7⟩
    have HR7 := hide hr7; have HP7 := hide (hf7.keep HP6.out (by omega)); have HQ7 := hide (hf7.keep HQ6.out (by omega)); have HB7 := hide (HB6.out.trans (hf7.below (by omega) hz6))
    have hz7 : p ≤ u7.heap.size := by have := HB7.out.size; omega
    clear hr7 hf7 HR6 HP6 HQ6 HB6 hz6
    have c12 : u7.cell? ⟨p, 12, none⟩ = some (.bool false) := cell_of_row u7 p 12 _ 26 (0, 0) HP7.out
    have z12 : u7.frozen? ⟨p, 12, none⟩ = false := frozen_of_row u7 p 12 _ 26 HP7.out
    have c14 : u7.cell? ⟨p, 14, none⟩ = some (.int .i64 0) := cell_of_row u7 p 14 _ 26 (0, 0) HP7.out
    have z14 : u7.frozen? ⟨p, 14, none⟩ = false := frozen_of_row u7 p 14 _ 26 HP7.out
    have c13 : u7.cell? ⟨p, 13, none⟩ = some (.int .i64 0) := cell_of_row u7 p 13 _ 26 (0, 0) HP7.out
    have z13 : u7.frozen? ⟨p, 13, none⟩ = false := frozen_of_row u7 p 13 _ 26 HP7.out
    obtain ⟨u10, hu10⟩ : ∃ u, u = ((u7.setCell ⟨p, 12, none⟩ (.bool true)).setCell ⟨p, 14, none⟩ (.int .i64 x.pr)).setCell ⟨p, 13, none⟩ (.int .i64 x.vl) := ⟨_, rfl⟩
    have HP10 := hide (show u10.heap[p]? = some (.cells (((fun y : Fra => (#[.int .u8 (y.d0.toNat : Int), .int .u8 (y.d1.toNat : Int), .int .u8 (y.d2.toNat : Int), .int .u8 (y.d3.toNat : Int), .int .u8 (y.d4.toNat : Int), .int .u8 (y.d5.toNat : Int), .int .u8 (y.s0.toNat : Int), .int .u8 (y.s1.toNat : Int), .int .u8 (y.s2.toNat : Int), .int .u8 (y.s3.toNat : Int), .int .u8 (y.s4.toNat : Int), .int .u8 (y.s5.toNat : Int), .bool y.tg, .int .i64 y.vl, .int .i64 y.pr, .int .i64 y.ty, .slice y.A y.n y.cap] : Array Value)) { x.snd with ty := 33024, tg := true, pr := x.pr, vl := x.vl })) 26 (0, 0)) by rw [hu10]; exact heap_setCell_same ((u7.setCell ⟨p, 12, none⟩ (.bool true)).setCell ⟨p, 14, none⟩ (.int .i64 x.pr)) p 13 _ 26 (.int .i64 x.vl) (heap_setCell_same (u7.setCell ⟨p, 12, none⟩ (.bool true)) p 14 _ 26 (.int .i64 x.pr) (heap_setCell_same u7 p 12 _ 26 (.bool true) (HP7.out))))
    have hf10 : Frm u7 u10 p := by rw [hu10]; exact ((((Frm.refl u7 p).put 12 (.bool true)).put 14 (.int .i64 x.pr)).put 13 (.int .i64 x.vl))
    have HR10 := hide (HR7.out.frm hf10 (Nat.le_refl _) (by omega)); have HQ10 := hide (hf10.keep HQ7.out (by omega)); have HB10 := hide (HB7.out.trans (show Below p u7 u10 by rw [hu10]; exact ((((Below.refl p u7).setCell (p := ⟨p, 12, none⟩) (Nat.le_refl _) (.bool true)).setCell (p := ⟨p, 14, none⟩) (Nat.le_refl _) (.int .i64 x.pr)).setCell (p := ⟨p, 13, none⟩) (Nat.le_refl _) (.int .i64 x.vl))))
    have hz10 : p ≤ u10.heap.size := by have := HB10.out.size; omega
    have HE10 := hide hu10
    clear hu10 hf10
    have hq : (x.pr * 8192 + x.vl) / 8192 = x.pr := by have := HV.out; omega
    have hand : bits .and .i64 (x.pr * 8192 + x.vl) 8191 = x.vl := by rw [and_low (two_range HRt.out HG.out)]; have := HV.out; omega
    go_wp2_with fail
    rw [← HE10.out]
    clear c12 z12 c14 z14 c13 z13 HE10 hq hand HR7 HP7 HQ7 HB7 hz7
    have HX := num_two (p + 1 + 1) p (x.ty) (bd) u10 (by have := tyOk_of HRt.out; omega) HR10.out
    with_reducible refine HX.mono ?_
    clear HX
    rintro e u11 ⟨rfl, hr11, hf11⟩
    have HR11 := hide hr11; have HP11 := hide (hf11.keep HP10.out (by omega)); have HQ11 := hide (hf11.keep HQ10.out (by omega)); have HB11 := hide (HB10.out.trans (hf11.below (by omega) hz10))
    have hz11 : p ≤ u11.heap.size := by have := HB11.out.size; omega
    clear hr11 hf11 HR10 HP10 HQ10 HB10 hz10
    have c15 : u11.cell? ⟨p, 15, none⟩ = some (.int .i64 33024) := cell_of_row u11 p 15 _ 26 (0, 0) HP11.out
    have z15 : u11.frozen? ⟨p, 15, none⟩ = false := frozen_of_row u11 p 15 _ 26 HP11.out
    obtain ⟨u12, hu12⟩ : ∃ u, u = u11.setCell ⟨p, 15, none⟩ (.int .i64 x.ty) := ⟨_, rfl⟩
    have HP12 := hide (show u12.heap[p]? = some (.cells (((fun y : Fra => (#[.int .u8 (y.d0.toNat : Int), .int .u8 (y.d1.toNat : Int), .int .u8 (y.d2.toNat : Int), .int .u8 (y.d3.toNat : Int), .int .u8 (y.d4.toNat : Int), .int .u8 (y.d5.toNat : Int), .int .u8 (y.s0.toNat : Int), .int .u8 (y.s1.toNat : Int), .int .u8 (y.s2.toNat : Int), .int .u8 (y.s3.toNat : Int), .int .u8 (y.s4.toNat : Int), .int .u8 (y.s5.toNat : Int), .bool y.tg, .int .i64 y.vl, .int .i64 y.pr, .int .i64 y.ty, .slice y.A y.n y.cap] : Array Value)) { x.snd with ty := x.ty, tg := true, pr := x.pr, vl := x.vl })) 26 (0, 0)) by rw [hu12]; exact heap_setCell_same u11 p 15 _ 26 (.int .i64 x.ty) (HP11.out))
    have hf12 : Frm u11 u12 p := by rw [hu12]; exact ((Frm.refl u11 p).put 15 (.int .i64 x.ty))
    have HR12 := hide (HR11.out.frm hf12 (Nat.le_refl _) (by omega)); have HQ12 := hide (hf12.keep HQ11.out (by omega)); have HB12 := hide (HB11.out.trans (show Below p u11 u12 by rw [hu12]; exact ((Below.refl p u11).setCell (p := ⟨p, 15, none⟩) (Nat.le_refl _) (.int .i64 x.ty))))
    have hz12 : p ≤ u12.heap.size := by have := HB12.out.size; omega
    have HE12 := hide hu12
    clear hu12 hf12
    obtain ⟨A8, c8, h8, hs8⟩ := HR12.out.2
    have r8 : u12.cell? ⟨p + 1 + 1, 0, none⟩ = some (.slice A8 bd.length c8) := cell_of_row u12 _ 0 _ 66 (0, 0) h8
    have HX := hide (clone_any A8 c8 bd u12 p hs8 (by have := HBd.out; have := (tyOk_of HRt.out).2.2.2; omega))
    clear h8 hs8
    rw [HE12.out] at r8
    go_wp2_with fail
    rw [← HE12.out]
    clear c15 z15
    with_reducible refine HX.out.mono ?_
    rintro e u9 ⟨A9, c9, rfl, hb9⟩
    have hpk : p < u12.heap.size := (Array.getElem?_eq_some_iff.1 HP12.out).1
    have hqk : p + 1 < u12.heap.size := (Array.getElem?_eq_some_iff.1 HQ12.out).1
    have HP9 := hide ((hb9.block p hpk).trans HP12.out); have HQ9 := hide ((hb9.block (p + 1) hqk).trans HQ12.out); have HB9 := hide (HB12.out.trans (hb9.mono hz12))
    have hz9 : p ≤ u9.heap.size := by have := HB9.out.size; omega
    clear hb9 HX r8 HR12 HP12 HQ12 HB12 hz12
    have c16 : u9.cell? ⟨p, 16, none⟩ = some (.slice none 0 0) := cell_of_row u9 p 16 _ 26 (0, 0) HP9.out
    have z16 : u9.frozen? ⟨p, 16, none⟩ = false := frozen_of_row u9 p 16 _ 26 HP9.out
    have HY := hide (show (({ ({ x.snd with ty := x.ty, tg := true, pr := x.pr, vl := x.vl } : Fra) with A := A9, n := bd.length, cap := c9 } : Fra)) = { x with A := A9, cap := c9 } by have h2 := HBd.out; have h3 := HG.out; simp only [Fra.snd, Fra.one, Fra.zero, h2, h3])
    obtain ⟨z, hz⟩ : ∃ z : Fra, z = { x with A := A9, cap := c9 } := ⟨_, rfl⟩
    have HPa := hide (show (u9.setCell ⟨p, 16, none⟩ (.slice A9 bd.length c9)).heap[p]? = some (.cells #[.int .u8 (z.d0.toNat : Int), .int .u8 (z.d1.toNat : Int), .int .u8 (z.d2.toNat : Int), .int .u8 (z.d3.toNat : Int), .int .u8 (z.d4.toNat : Int), .int .u8 (z.d5.toNat : Int), .int .u8 (z.s0.toNat : Int), .int .u8 (z.s1.toNat : Int), .int .u8 (z.s2.toNat : Int), .int .u8 (z.s3.toNat : Int), .int .u8 (z.s4.toNat : Int), .int .u8 (z.s5.toNat : Int), .bool z.tg, .int .i64 z.vl, .int .i64 z.pr, .int .i64 z.ty, .slice z.A z.n z.cap] 26 (0, 0)) by rw [hz, ← HY.out]; exact heap_setCell_same u9 p 16 _ 26 _ HP9.out)
    have hfa : Frm u9 (u9.setCell ⟨p, 16, none⟩ (.slice A9 bd.length c9)) p := (Frm.refl u9 p).put 16 _
    have HQa := hide (hfa.keep HQ9.out (by omega)); have HBa := hide (HB9.out.trans ((Below.refl p u9).setCell (p := ⟨p, 16, none⟩) (Nat.le_refl _) (.slice A9 bd.length c9)))
    have HZ := hide hz
    clear hfa hz HP9 HQ9 HB9
    go_wp2_with (first | (refine wpList_load_part rfl 26 (.tmp 2) rfl p 0 rfl 26 _ #[.int .u8 (z.d0.toNat : Int), .int .u8 (z.d1.toNat : Int), .int .u8 (z.d2.toNat : Int), .int .u8 (z.d3.toNat : Int), .int .u8 (z.d4.toNat : Int), .int .u8 (z.d5.toNat : Int), .int .u8 (z.s0.toNat : Int), .int .u8 (z.s1.toNat : Int), .int .u8 (z.s2.toNat : Int), .int .u8 (z.s3.toNat : Int), .int .u8 (z.s4.toNat : Int), .int .u8 (z.s5.toNat : Int), .bool z.tg, .int .i64 z.vl, .int .i64 z.pr, .int .i64 z.ty, .slice z.A z.n z.cap] (0, 0) _ HPa.out Tryd.underlying26 rfl (by kernel_rfl) rfl ?_) | (refine wpList_store_at rfl rfl p 0 #[.int .u8 (z.d0.toNat : Int), .int .u8 (z.d1.toNat : Int), .int .u8 (z.d2.toNat : Int), .int .u8 (z.d3.toNat : Int), .int .u8 (z.d4.toNat : Int), .int .u8 (z.d5.toNat : Int), .int .u8 (z.s0.toNat : Int), .int .u8 (z.s1.toNat : Int), .int .u8 (z.s2.toNat : Int), .int .u8 (z.s3.toNat : Int), .int .u8 (z.s4.toNat : Int), .int .u8 (z.s5.toNat : Int), .bool z.tg, .int .i64 z.vl, .int .i64 z.pr, .int .i64 z.ty, .slice z.A z.n z.cap] rfl rfl 26 HPa.out (by kernel_rfl) (by simp) (fra_ones z) #[.int .u8 (z.d0.toNat : Int), .int .u8 (z.d1.toNat : Int), .int .u8 (z.d2.toNat : Int), .int .u8 (z.d3.toNat : Int), .int .u8 (z.d4.toNat : Int), .int .u8 (z.d5.toNat : Int), .int .u8 (z.s0.toNat : Int), .int .u8 (z.s1.toNat : Int), .int .u8 (z.s2.toNat : Int), .int .u8 (z.s3.toNat : Int), .int .u8 (z.s4.toNat : Int), .int .u8 (z.s5.toNat : Int), .bool z.tg, .int .i64 z.vl, .int .i64 z.pr, .int .i64 z.ty, .slice z.A z.n z.cap] rfl ?_; intro ub hfb hbb; have HPb := hide hbb; have HQb := hide (hfb.keep HQa.out (by omega)); have HBb := hide (HBa.out.trans (hfb.below (Nat.le_refl _) (by have := HBa.out.size; omega))); have q0 := cell_of_row ub (p + 1) 0 _ 4 (0, 0) HQb.out; have q1 := frozen_of_row ub (p + 1) 0 _ 4 HQb.out; simp only [List.getElem?_toArray, List.getElem?_cons_zero] at q0; clear hfb hbb))
    refine leaves_cons (f := 24) (args := #[.pointer (some ⟨p, 0, none⟩), .pointer (some ⟨p + 1, 0, none⟩)]) (by simp) (by simp [go_sem]) ?_
    refine (catch_idle p (p + 1) _).mono ?_
    rintro e u' w'' ⟨rfl, rfl, rfl⟩
    have hfc : Frm ub (ub.setCell ⟨p + 1, 0, none⟩ (.bool true)) (p + 1) := (Frm.refl ub (p + 1)).put 0 _
    have hPc := (hfc.alloc (.cells #[] 64)).keep HPb.out (by omega)
    have hqb : p + 1 < ub.heap.size := (Array.getElem?_eq_some_iff.1 HQb.out).1
    have hQc : ((ub.setCell ⟨p + 1, 0, none⟩ (.bool true)).alloc (.cells #[] 64)).cell? ⟨p + 1, 0, none⟩ = some (.bool true) := cell_of_row _ (p + 1) 0 _ 4 (0, 0) ((Below.heap_alloc _ _ _ (by simp; omega)).trans (heap_setCell_same ub (p + 1) 0 _ 4 (.bool true) HQb.out))
    refine ⟨_, res_read rfl _ _ p (p + 1) z true rfl rfl hPc hQc, ?_⟩
    rw [HZ.out]
    have hbz := (HBb.out.setCell (p := ⟨p + 1, 0, none⟩) (by show p ≤ p + 1; omega) (.bool true)).alloc (by have := HBb.out.size; simp; omega) (.cells #[] 64)
    exact ⟨A9, c9, rfl, by rw [← HPp.out]; exact hbz⟩
end Go.Proofs.YtehhldpmhlocdaaDoor

/-
  cmp: Compare, Or; pick's 'better'.
-/
import Derived.Test.YtehhldpmhlocdaaDoorTpA
import Derived.Test.YtehhldpmhlocdaaDoorRise
namespace Go.Proofs.YtehhldpmhlocdaaDoor
open Go.RowKit Go.WideShapes Go.ChangeShapes
set_option linter.unusedVariables false

def cmp3 (a b : Int) : Int := if a < b then -1 else if b < a then 1 else 0

set_option maxHeartbeats 4000000 in
theorem cmpU_any (a b : Int) (w : World) : Calls Tryd.prog 10 #[.int .u32 a, .int .u32 b] w fun e w' => e = .returned (.int .i64 (cmp3 a b)) ∧ w = w' := by
  go_enter Tryd.func10, Tryd.ntmps10
  by_cases h1 : a < b
  · go_wp2
    go_ret
    exact ⟨by simp [cmp3, h1], rfl⟩
  by_cases h2 : b < a
  · go_wp2
    go_ret
    exact ⟨by simp [cmp3, h1, h2], rfl⟩
  · have HC := hide (show cmp3 a b = 0 by unfold cmp3; rw [if_neg h1, if_neg h2])
    go_wp2
    go_ret
    exact ⟨by rw [HC.out]; rfl, rfl⟩
set_option maxHeartbeats 4000000 in
theorem cmpI_any (a b : Int) (w : World) : Calls Tryd.prog 12 #[.int .i64 a, .int .i64 b] w fun e w' => e = .returned (.int .i64 (cmp3 a b)) ∧ w = w' := by
  go_enter Tryd.func12, Tryd.ntmps12
  by_cases h1 : a < b
  · go_wp2
    go_ret
    exact ⟨by simp [cmp3, h1], rfl⟩
  by_cases h2 : b < a
  · go_wp2
    go_ret
    exact ⟨by simp [cmp3, h1, h2], rfl⟩
  · have HC := hide (show cmp3 a b = 0 by unfold cmp3; rw [if_neg h1, if_neg h2])
    go_wp2
    go_ret
    exact ⟨by rw [HC.out]; rfl, rfl⟩

def or2 (x y : Int) : Int := if x = 0 then y else x
set_option maxHeartbeats 4000000 in
theorem or_any (g : Nat) (x y : Int) (w : World) (hg : w.heap[g]? = some (.cells #[.int .i64 x, .int .i64 y] 3 (0, 0))) : Calls Tryd.prog 9 #[.slice (some ⟨g, 0, none⟩) 2 2] w fun e w' => e = .returned (.int .i64 (or2 x y)) ∧ w = w' := by
  have c0 : w.cell? ⟨g, 0, none⟩ = some (.int .i64 x) := cell_of_row w g 0 _ 3 (0, 0) hg
  have c1 : w.cell? ⟨g, 1, none⟩ = some (.int .i64 y) := cell_of_row w g 1 _ 3 (0, 0) hg
  clear hg
  go_enter Tryd.func9, Tryd.ntmps9
  go_wp2_with fail
  go_loop [8] (fun i => ∃ k : Nat, k ≤ 2 ∧ i = .int .i64 k ∧ (0 < k → x = 0) ∧ (1 < k → y = 0)) (fun i => 2 - (intOf i).toNat)
  case atStart => exact ⟨0, by omega, rfl, by omega, by omega⟩
  case round =>
    obtain ⟨k, hk, rfl, hx, hy⟩ := hrel
    obtain rfl | rfl | rfl : k = 0 ∨ k = 1 ∨ k = 2 := by omega
    · by_cases h0 : x = 0
      · go_wp2
        go_round
        case rel => exact ⟨1, by omega, rfl, fun _ => h0, by omega⟩
        case measure => simp [intOf]
      · go_wp2
        go_ret
        exact ⟨by simp [or2, h0], rfl⟩
    · have h0 : x = 0 := hx (by omega)
      by_cases h1 : y = 0
      · go_wp2
        go_round
        case rel => exact ⟨2, by omega, rfl, fun _ => h0, fun _ => h1⟩
        case measure => simp [intOf]
      · go_wp2
        go_ret
        exact ⟨by simp [or2], rfl⟩
    · have h0 : x = 0 := hx (by omega)
      have h1 : y = 0 := hy (by omega)
      go_wp2
      go_ret
      exact ⟨by simp [or2], rfl⟩

/-- Whether one member is better than another. -/
def better (h a b : Int) : Int := or2 (cmp3 (weigh h a) (weigh h b)) (cmp3 b a)

set_option maxRecDepth 100000 in
set_option maxHeartbeats 8000000 in
theorem better_any (g : Nat) (h a b : Int) (w : World) (hg : w.heap[g]? = some (.cells #[.int .u32 h] 30 (0, 0))) :
    Calls Tryd.prog 8 #[.int .i64 a, .int .i64 b, .pointer (some ⟨g, 0, none⟩)] w fun e w' => e = .returned (.int .i64 (better h a b)) ∧ Below w.heap.size w w' := by
  have hlt : g < w.heap.size := (Array.getElem?_eq_some_iff.1 hg).1
  have HG := hide hg
  clear hg
  go_enter Tryd.func8, Tryd.ntmps8
  go_wp2_with fail
  refine wp_region_rise 10 (by kernel_rfl) (by kernel_rfl) (fun v hv => ?_)
  have hN := above_some v
  have hAb : ∀ u : Above v, Below w.heap.size w u.w := fun u => by obtain ⟨u, hu⟩ := u; subst hv; exact ⟨hu.os, hu.tape, hu.output, hu.size, hu.block⟩
  have K0 : ∀ u : Above v, u.w.cell? ⟨g, 0, none⟩ = some (.int .u32 h) := fun u => cell_of_row u.w g 0 _ 30 (0, 0) (((hAb u).block g hlt).trans HG.out)
  clear hAb
  repeat (refine wpRise_step (fun K hK => ?_); simp only [Oper.rise]; go_simp; first | (refine hK _ ?_; clear hK K) | (apply Exists.intro; refine ⟨fun u => ?_, hK _ ?_⟩; (first | (go_at_call 11; first | with_reducible exact weigh_any h a u.w | with_reducible exact weigh_any h b u.w) | (go_at_call 10; exact (cmpU_any _ _ u.w).mono fun e w' k => ⟨k.1, k.2 ▸ Below.refl _ _⟩) | (go_at_call 12; exact (cmpI_any _ _ u.w).mono fun e w' k => ⟨k.1, k.2 ▸ Below.refl _ _⟩)); clear hK K))
  refine wpRise_nil ?_
  clear K0 hN
  intro u hu
  have HU := hide hu
  have hsz := hu.size
  clear hu hv v
  simp only [List.drop_succ_cons, List.drop_zero]
  go_wp2_with fail
  refine (or_any u.heap.size _ _ _ (heap_alloc_new u _)).mono ?_
  rintro e w2 ⟨rfl, rfl⟩
  have HB2 := hide (HU.out.alloc hsz (.cells #[.int .i64 (cmp3 (weigh h a) (weigh h b)), .int .i64 (cmp3 b a)] 3))
  go_wp2_with fail
  go_ret
  exact ⟨rfl, HB2.out⟩

/-! ### Choose -/
/-- Integers at an address. -/
def IntsAt (w : World) (b o : Nat) (L : List Int) : Prop := ∀ i, (hi : i < L.length) → w.cell? ⟨b, o + i, none⟩ = some (.int .i64 L[i])
theorem IntsAt.below {w w' : World} {base b o : Nat} {L : List Int} (h : IntsAt w b o L) (hb : Below base w w') (hl : b < base) : IntsAt w' b o L := fun i hi => (hb.cell (by exact hl)).trans (h i hi)
/-- The first of the best. -/
def bestF (h m : Int) (L : List Int) : Int := L.foldl (fun m x => if 0 < better h x m then x else m) m
theorem bestF_snoc (h m : Int) (L : List Int) (k : Nat) (hk : k < L.length) : bestF h m (L.take (k + 1)) = if 0 < better h L[k] (bestF h m (L.take k)) then L[k] else bestF h m (L.take k) := by
  unfold bestF
  rw [List.take_succ_eq_append_getElem hk, List.foldl_append, List.foldl_cons, List.foldl_nil]

set_option maxRecDepth 100000 in
set_option maxHeartbeats 8000000 in
theorem maxFunc_any (g : Nat) (h : Int) (b o n cap : Nat) (x : Int) (L : List Int) (w : World) (hg : w.heap[g]? = some (.cells #[.int .u32 h] 30 (0, 0))) (hn : (x :: L).length = n) (hs : n ≤ 100) (hb : b < w.heap.size) (hc : IntsAt w b o (x :: L)) :
    Calls Tryd.prog 13 #[.slice (some ⟨b, o, none⟩) n cap, .func (.func 8) #[] #[.pointer (some ⟨g, 0, none⟩)]] w fun e w' => e = .returned (.int .i64 (bestF h x L)) ∧ Below w.heap.size w w' := by
  have hlt : g < w.heap.size := (Array.getElem?_eq_some_iff.1 hg).1
  have HG := hide hg; have HC := hide hc; have HN := hide hn
  have c0 : w.cell? ⟨b, o, none⟩ = some (.int .i64 x) := hc 0 (by simp)
  have h1 : ¬ (n : Int) < 1 := by simp at hn; omega
  have h2 : (0 : Int) < (n : Int) := by omega
  have hn1 : 1 ≤ n := by omega
  clear hg hc hn
  go_enter Tryd.func13, Tryd.ntmps13
  go_wp2_with fail
  go_loopw [5, 6] (fun v i wr => ∃ k : Nat, k + 1 ≤ n ∧ i = .int .i64 ((k + 1 : Nat) : Int) ∧ v = .int .i64 (bestF h x (L.take k)) ∧ Below w.heap.size w wr) (fun _ i _ => n - (intOf i).toNat)
  case atStart => exact ⟨0, by omega, rfl, rfl, Below.refl _ _⟩
  case round =>
    obtain ⟨k, hk, rfl, rfl, hbel⟩ := hrel
    have HB := hide hbel
    by_cases hlt2 : k + 1 < n
    · have hkL : k < L.length := by have := HN.out; simp at this; omega
      have d1 : wr.cell? ⟨b, o + (k + 1), none⟩ = some (.int .i64 L[k]) := (hbel.cell (by exact hb)).trans (HC.out (k + 1) (by simp; omega))
      obtain ⟨y, hy⟩ : ∃ y, y = L[k] := ⟨_, rfl⟩
      obtain ⟨m, hm⟩ : ∃ m, m = bestF h x (L.take k) := ⟨_, rfl⟩
      have HS := hide (bestF_snoc h x L k hkL)
      rw [← hy] at d1 HS
      rw [← hm] at HS ⊢
      have hk1 : ((k + 1 : Nat) : Int) < (n : Int) := by omega
      have hk0 : (0 : Int) ≤ ((k + 1 : Nat) : Int) := by omega
      clear hbel hy hm
      go_wp2_with fail
      refine (better_any g h y m wr ((HB.out.block g hlt).trans HG.out)).mono ?_
      rintro e w2 ⟨rfl, hb2⟩
      have HB2 := hide (HB.out.trans (hb2.mono HB.out.size))
      have d2 : w2.cell? ⟨b, o + (k + 1), none⟩ = some (.int .i64 y) := (hb2.cell (by have := HB.out.size; show b < _; omega)).trans d1
      clear hb2 HB d1
      obtain ⟨r, hr⟩ : ∃ r, r = better h y m := ⟨_, rfl⟩
      rw [← hr] at HS ⊢
      clear hr
      by_cases hp : 0 < r
      · have HS2 := hide (HS.out.trans (if_pos hp))
        clear HS
        go_wp2_with fail
        go_roundw
        case rel => exact ⟨k + 1, by omega, by go_num, by rw [HS2.out], HB2.out⟩
        case measure => simp [intOf]; omega
      · have HS2 := hide (HS.out.trans (if_neg hp))
        clear HS
        go_wp2_with fail
        go_roundw
        case rel => exact ⟨k + 1, by omega, by go_num, by rw [HS2.out], HB2.out⟩
        case measure => simp [intOf]; omega
    · have HT := hide (show L.take k = L from List.take_of_length_le (by have := HN.out; simp at this; omega))
      have hk1 : ¬ ((k + 1 : Nat) : Int) < (n : Int) := by omega
      clear hbel
      go_wp2_with fail
      go_ret
      exact ⟨by simp [HT.out], HB.out⟩

/-- A slice of integers: none, or at an address. -/
def IntSl (w : World) (B : Nat) (A : Option Addr) (L : List Int) : Prop := L = [] ∨ ∃ b o, A = some ⟨b, o, none⟩ ∧ b < B ∧ IntsAt w b o L
theorem IntSl.below {w w' : World} {B base : Nat} {A : Option Addr} {L : List Int} (h : IntSl w B A L) (hb : Below base w w') (hB : B ≤ base) : IntSl w' B A L := by
  rcases h with h | ⟨b, o, rfl, hlt, hc⟩
  · exact .inl h
  · exact .inr ⟨b, o, rfl, hlt, hc.below hb (by omega)⟩
theorem IntSl.mono {w : World} {B B' : Nat} {A : Option Addr} {L : List Int} (h : IntSl w B A L) (hB : B ≤ B') : IntSl w B' A L := by
  rcases h with h | ⟨b, o, rfl, hlt, hc⟩
  · exact .inl h
  · exact .inr ⟨b, o, rfl, by omega, hc⟩
def chooseF (h : Int) : List Int → Int
  | [] => 0
  | x :: L => bestF h x L
def someF (L : List Int) : Bool := !L.isEmpty

set_option maxRecDepth 100000 in
set_option maxHeartbeats 8000000 in
theorem choose_any (A : Option Addr) (n cap : Nat) (h : Int) (L : List Int) (w : World) (hn : L.length = n) (hs : n ≤ 100) (hc : IntSl w w.heap.size A L) :
    Calls Tryd.prog 4 #[.slice A n cap, .int .u32 h] w fun e w' => e = .returned (.tuple #[.int .i64 (chooseF h L), .bool (someF L)]) ∧ Below w.heap.size w w' := by
  have hmf : ∀ (fn : Fn) (first cap : Array Value) (w : World), (Instr.makeFunc fn first cap).run Tryd.prog w = .ok (.func fn first cap) w := fun _ _ _ _ => rfl
  have HB0 := hide ((Below.refl w.heap.size w).alloc (Nat.le_refl _) (.cells #[.int .u32 h] 30))
  rcases L with _ | ⟨x, L⟩
  · obtain rfl : n = 0 := by simpa using hn.symm
    go_enter Tryd.func4, Tryd.ntmps4
    go_wp2_with fail
    go_ret2
    exact ⟨rfl, HB0.out⟩
  · rcases hc with hc | ⟨b, o, rfl, hlt, hc⟩
    · simp at hc
    have hn0 : ¬ n = 0 := by simp at hn; omega
    have hni : ¬ (n : Int) = 0 := by omega
    have HM := hide (maxFunc_any w.heap.size h b o n cap x L (w.alloc (.cells #[.int .u32 h] 30)) (heap_alloc_new w _) hn hs (by simp; omega) (hc.below HB0.out hlt))
    clear hc hn
    go_enter Tryd.func4, Tryd.ntmps4
    go_wp2_with fail
    refine HM.out.mono ?_
    rintro e w2 ⟨rfl, hb2⟩
    have HB2 := hide (HB0.out.trans (hb2.mono (by simp)))
    clear hb2 HM
    go_wp2_with fail
    go_ret2
    exact ⟨rfl, HB2.out⟩
end Go.Proofs.YtehhldpmhlocdaaDoor

/-
  ether's reader: take, number.
-/
import Derived.Test.YtehhldpmhlocdaaDoorTpD
import Derived.WalkLawsBesides
namespace Go.Proofs.YtehhldpmhlocdaaDoor
open Go.RowKit Go.WideShapes Go.ChangeShapes
set_option linter.unusedVariables false

theorem Frm.drawn {w w1 : World} {g : Nat} (h : Frm w w1 g) (n : Nat) : Frm w (w1.drewN n) g := ⟨h.os, h.tape, h.output, h.size, h.block⟩

/-- A slice that reads as these bytes, out of a block below. -/
def SrcAt (w : World) (B : Nat) (A : Option Addr) (cap : Nat) (ys : List UInt8) : Prop :=
  ys.length ≤ cap ∧ cap ≤ 9223372036854775807 ∧ (ys = [] ∨ ∃ b o, A = some ⟨b, o, none⟩ ∧ b < B ∧ ∀ i, (hi : i < ys.length) → w.cell? ⟨b, o + i, none⟩ = some (.int .u8 (ys[i].toNat : Int)))
def RdAt (w : World) (rb B : Nat) (ys : List UInt8) : Prop := B ≤ rb ∧ ∃ A cap, w.heap[rb]? = some (.cells #[.slice A ys.length cap] 66 (0, 0)) ∧ SrcAt w B A cap ys
theorem SrcAt.frm {w w' : World} {B g : Nat} {A : Option Addr} {cap : Nat} {ys : List UInt8} (h : SrcAt w B A cap ys) (hf : Frm w w' g) (hB : B ≤ g) : SrcAt w' B A cap ys := by
  obtain ⟨h1, h2, h3⟩ := h
  refine ⟨h1, h2, ?_⟩
  rcases h3 with h3 | ⟨b, o, rfl, hb, hc⟩
  · exact .inl h3
  · exact .inr ⟨b, o, rfl, hb, fun i hi => hf.cell (hc i hi) (by omega)⟩
theorem SrcAt.below {w w' : World} {B base : Nat} {A : Option Addr} {cap : Nat} {ys : List UInt8} (h : SrcAt w B A cap ys) (hf : Below base w w') (hB : B ≤ base) : SrcAt w' B A cap ys := by
  obtain ⟨h1, h2, h3⟩ := h
  refine ⟨h1, h2, ?_⟩
  rcases h3 with h3 | ⟨b, o, rfl, hb, hc⟩
  · exact .inl h3
  · exact .inr ⟨b, o, rfl, hb, fun i hi => (hf.cell (by show b < base; omega)).trans (hc i hi)⟩
theorem RdAt.lt {w : World} {rb B : Nat} {ys : List UInt8} (h : RdAt w rb B ys) : rb < w.heap.size := by
  obtain ⟨-, A, cap, h, -⟩ := h
  exact (Array.getElem?_eq_some_iff.1 h).1
theorem RdAt.frm {w w' : World} {rb B g : Nat} {ys : List UInt8} (h : RdAt w rb B ys) (hf : Frm w w' g) (hB : B ≤ g) (hne : rb ≠ g) : RdAt w' rb B ys := by
  obtain ⟨h1, A, cap, h2, h3⟩ := h
  exact ⟨h1, A, cap, hf.keep h2 hne, h3.frm hf hB⟩
theorem RdAt.below {w w' : World} {rb B : Nat} {ys : List UInt8} (h : RdAt w rb B ys) (hf : Below w.heap.size w w') : RdAt w' rb B ys := by
  have hl := h.lt
  obtain ⟨h1, A, cap, h2, h3⟩ := h
  exact ⟨h1, A, cap, (hf.block rb hl).trans h2, h3.below hf (by omega)⟩
theorem SrcAt.take {w : World} {B : Nat} {A : Option Addr} {cap : Nat} {ys : List UInt8} (h : SrcAt w B A cap ys) (k : Nat) : SrcAt w B A cap (ys.take k) := by
  obtain ⟨h1, h2, h3⟩ := h
  refine ⟨by rw [List.length_take]; omega, h2, ?_⟩
  rcases h3 with h3 | ⟨b, o, rfl, hb, hc⟩
  · exact .inl (by rw [h3]; simp)
  · exact .inr ⟨b, o, rfl, hb, fun i hi => by
      have hi' : i < ys.length := by rw [List.length_take] at hi; omega
      rw [hc i hi', List.getElem_take]⟩
theorem src_drop1 {w : World} {B b o cap k : Nat} {ys : List UInt8} (h1 : ys.length ≤ cap) (h2 : cap ≤ 9223372036854775807) (hb : b < B) (hk : k ≤ ys.length)
    (hc : ∀ i, (hi : i < ys.length) → w.cell? ⟨b, o + i, none⟩ = some (.int .u8 (ys[i].toNat : Int))) : SrcAt w B (some ⟨b, o + k, none⟩) (cap - k) (ys.drop k) :=
  ⟨by rw [List.length_drop]; omega, by omega, .inr ⟨b, o + k, rfl, hb, fun i hi => by
    have hi' : k + i < ys.length := by rw [List.length_drop] at hi; omega
    rw [Nat.add_assoc, hc (k + i) hi', List.getElem_drop]⟩⟩
theorem src_drop2 {w : World} {B : Nat} {A : Option Addr} {cap k : Nat} {ys : List UInt8} (h1 : ys.length ≤ cap) (h2 : cap ≤ 9223372036854775807) (hk : cap ≤ k) : SrcAt w B A (cap - k) (ys.drop k) :=
  ⟨by rw [List.length_drop]; omega, by omega, .inl (List.drop_eq_nil_of_le (by omega))⟩

def TookPost (rb B k : Nat) (ys : List UInt8) (w : World) (e : Ending) (w' : World) : Prop :=
  (k ≤ ys.length ∧ ∃ A cap, e = .returned (.slice A k cap) ∧ SrcAt w' B A cap (ys.take k) ∧ RdAt w' rb B (ys.drop k) ∧ Frm w w' rb) ∨
  (ys.length < k ∧ e = .panicked [{ v := .iface 64 (.agg #[]), recovered := false }] ∧ Frm w w' rb)

set_option maxHeartbeats 4000000 in
theorem taken_any (rb B k : Nat) (ys : List UInt8) (w : World) (hr : RdAt w rb B ys) (hk1 : 1 ≤ k) (hk2 : k ≤ 100) :
    Calls Tryd.prog 25 #[.pointer (some ⟨rb, 0, none⟩), .int .i64 k] w (TookPost rb B k ys w) := by
  obtain ⟨hB, A, cap, h1, h2, h3, h4⟩ := hr
  have c0 : w.cell? ⟨rb, 0, none⟩ = some (.slice A ys.length cap) := cell_of_row w rb 0 _ 66 (0, 0) h1
  have z0 : w.frozen? ⟨rb, 0, none⟩ = false := frozen_of_row w rb 0 _ 66 h1
  have H1 := hide h1
  clear h1
  have k0 : (0 : Int) ≤ (k : Int) := by omega
  by_cases hlt : ys.length < k
  · have kk : (ys.length : Int) < (k : Int) := by omega
    go_enter Tryd.func25, Tryd.ntmps25
    go_wp2_with fail
    exact ⟨rfl, .inr ⟨hlt, rfl, Frm.refl _ _⟩⟩
  · have kk : ¬ (ys.length : Int) < (k : Int) := by omega
    have kc : k ≤ cap := by omega
    have kl : k ≤ ys.length := by omega
    rcases h4 with h4 | ⟨b, o, rfl, hb, hc⟩
    · subst h4; simp at hlt; omega
    have HC := hide hc
    clear hc
    rcases Nat.lt_or_ge k cap with hck | hck
    rotate_left
    · have hck' : cap = k := by omega
      subst hck'
      clear hck
      go_enter Tryd.func25, Tryd.ntmps25
      go_wp2_with fail
      go_ret
      have hf : Frm w (w.setCell ⟨rb, 0, none⟩ (.slice (some ⟨b, o, none⟩) 0 0)) rb := (Frm.refl w rb).put 0 _
      have hs : SrcAt w B (some ⟨b, o, none⟩) cap ys := ⟨h2, h3, .inr ⟨b, o, rfl, hb, HC.out⟩⟩
      have hz : (ys.drop cap).length = 0 := by rw [List.length_drop]; omega
      refine .inl ⟨kl, some ⟨b, o, none⟩, cap, rfl, (hs.take cap).frm hf hB, ⟨hB, some ⟨b, o, none⟩, 0, ?_, ?_⟩, hf⟩
      · rw [heap_setCell_same w rb 0 _ 66 _ H1.out, hz]; rfl
      · have := (src_drop2 (w := w) (B := B) (A := some ⟨b, o, none⟩) (k := cap) h2 h3 (Nat.le_refl _)).frm hf hB
        rwa [Nat.sub_self] at this
    · have hne : ¬ cap = k := by omega
      have hne' : ¬ k = cap := by omega
      go_enter Tryd.func25, Tryd.ntmps25
      go_wp2_with fail
      go_ret
      have hf : Frm w (w.setCell ⟨rb, 0, none⟩ (.slice (some ⟨b, o + k, none⟩) (ys.length - k) (cap - k))) rb := (Frm.refl w rb).put 0 _
      have hs : SrcAt w B (some ⟨b, o, none⟩) cap ys := ⟨h2, h3, .inr ⟨b, o, rfl, hb, HC.out⟩⟩
      refine .inl ⟨kl, some ⟨b, o, none⟩, cap, rfl, (hs.take k).frm hf hB, ⟨hB, some ⟨b, o + k, none⟩, cap - k, ?_, ?_⟩, hf⟩
      · rw [heap_setCell_same w rb 0 _ 66 _ H1.out, List.length_drop]; rfl
      · exact (src_drop1 h2 h3 hb kl HC.out).frm hf hB

/-- What two bytes tell. -/
def num2 (x y : UInt8) : Int := (x.toNat : Int) * 256 + (y.toNat : Int)
theorem num2_range (x y : UInt8) : 0 ≤ num2 x y ∧ num2 x y ≤ 65535 := by
  have := x.toNat_lt; have := y.toNat_lt
  unfold num2
  omega

theorem or_num (x y : UInt8) : bits .or .i64 ((x.toNat : Int) * 256) (y.toNat : Int) = num2 x y := by
  have hx := x.toNat_lt; have hy := y.toNat_lt
  have e1 : BitVec.ofInt 64 ((x.toNat : Int) * 256) = BitVec.ofNat 64 (x.toNat * 256) := by
    apply BitVec.eq_of_toNat_eq; rw [BitVec.toNat_ofInt, BitVec.toNat_ofNat]; omega
  have e2 : BitVec.ofInt 64 (y.toNat : Int) = BitVec.ofNat 64 y.toNat := by
    apply BitVec.eq_of_toNat_eq; rw [BitVec.toNat_ofInt, BitVec.toNat_ofNat]; omega
  have e3 : x.toNat * 256 ||| y.toNat = x.toNat * 256 + y.toNat := by
    have := Nat.shiftLeft_add_eq_or_of_lt (i := 8) (b := y.toNat) (by omega) x.toNat
    rw [Nat.shiftLeft_eq] at this
    exact this.symm
  show IntKind.i64.wrap ((BitVec.ofInt 64 ((x.toNat : Int) * 256) ||| BitVec.ofInt 64 (y.toNat : Int)).toNat : Int) = _
  rw [e1, e2, BitVec.toNat_or, BitVec.toNat_ofNat, BitVec.toNat_ofNat, Nat.mod_eq_of_lt (by omega), Nat.mod_eq_of_lt (by omega), e3, IntKind.wrap_i64]
  unfold num2
  omega

def NumPost (rb B : Nat) (ys : List UInt8) (w : World) (e : Ending) (w' : World) : Prop :=
  (∃ x y zs, ys = x :: y :: zs ∧ e = .returned (.int .i64 (num2 x y)) ∧ RdAt w' rb B zs ∧ Frm w w' rb) ∨
  (ys.length < 2 ∧ e = .panicked [{ v := .iface 64 (.agg #[]), recovered := false }] ∧ Frm w w' rb)

set_option maxHeartbeats 4000000 in
theorem number_any (rb B : Nat) (ys : List UInt8) (w : World) (hr : RdAt w rb B ys) :
    Calls Tryd.prog 26 #[.pointer (some ⟨rb, 0, none⟩)] w (NumPost rb B ys w) := by
  have HR := hide hr
  clear hr
  go_enter Tryd.func26, Tryd.ntmps26
  go_wp2_with fail
  refine (taken_any rb B 2 ys w HR.out (by decide) (by decide)).mono ?_
  rintro e w1 (⟨hl, A, cap, rfl, hs, hr1, hf⟩ | ⟨hl, rfl, hf⟩)
  · match ys, hl with
    | x :: y :: zs, _ =>
      obtain ⟨s1, s2, s3⟩ := hs
      rcases s3 with s3 | ⟨b, o, rfl, hb, hc⟩
      · simp at s3
      have c0 : w1.cell? ⟨b, o, none⟩ = some (.int .u8 (x.toNat : Int)) := hc 0 (by simp)
      have c1 : w1.cell? ⟨b, o + 1, none⟩ = some (.int .u8 (y.toNat : Int)) := hc 1 (by simp)
      have hx := x.toNat_lt; have hy := y.toNat_lt
      have HR1 := hide hr1; have HF := hide hf
      clear hc hr1 hf
      go_wp2_with fail
      go_quiet (fail)
      go_wp2_with fail
      go_ret
      refine .inl ⟨x, y, zs, rfl, ?_, HR1.out.below (below_dn (Below.refl _ _) nq), HF.out.drawn nq⟩
      rw [← or_num]
      rfl
  · go_wp2_with fail
    exact ⟨rfl, .inr ⟨hl, rfl, hf⟩⟩
theorem list6' {α : Type} {l : List α} (h : 6 ≤ l.length) : ∃ a b c d e f r, l = a :: b :: c :: d :: e :: f :: r := by
  match l, h with
  | a :: b :: c :: d :: e :: f :: r, _ => exact ⟨a, b, c, d, e, f, r, rfl⟩
theorem six_laid {w : World} {b o : Nat} {m0 m1 m2 m3 m4 m5 : UInt8} {zs : List UInt8} (h : ∀ i, (hi : i < 6) → w.cell? ⟨b, o + i, none⟩ = some (.int .u8 (((m0 :: m1 :: m2 :: m3 :: m4 :: m5 :: zs)[i]'(by simp; omega)).toNat : Int))) :
    ∀ j v, (bcells [m0, m1, m2, m3, m4, m5])[j]? = some v → w.cell? ((⟨b, o, none⟩ : Addr).add j) = some v := fun j v hv => by
  have hj : j < 6 := by
    have := (List.getElem?_eq_some_iff.1 hv).1
    simpa [bcells] using this
  have := h j hj
  have e : ((⟨b, o, none⟩ : Addr).add j) = ⟨b, o + j, none⟩ := by
    simp only [Addr.add]
    split
    · next h0 => rw [h0]; rfl
    · rfl
  rw [e, this, ← hv]
  match j, hj with
  | 0, _ => rfl
  | 1, _ => rfl
  | 2, _ => rfl
  | 3, _ => rfl
  | 4, _ => rfl
  | 5, _ => rfl
theorem taken_ok (rb B k : Nat) (ys : List UInt8) (w : World) (hr : RdAt w rb B ys) (hk1 : 1 ≤ k) (hk2 : k ≤ 100) (hl : k ≤ ys.length) :
    Calls Tryd.prog 25 #[.pointer (some ⟨rb, 0, none⟩), .int .i64 k] w fun e w' => ∃ b o cap, e = .returned (.slice (some ⟨b, o, none⟩) k cap) ∧ b < B ∧ (∀ i, (hi : i < k) → w'.cell? ⟨b, o + i, none⟩ = some (.int .u8 (ys[i].toNat : Int))) ∧ RdAt w' rb B (ys.drop k) ∧ Frm w w' rb := by
  refine (taken_any rb B k ys w hr hk1 hk2).mono fun e w' h => ?_
  rcases h with ⟨-, A, cap, h1, h2, h3, h4⟩ | ⟨h, -⟩
  · obtain ⟨s1, s2, s3⟩ := h2
    rcases s3 with s3 | ⟨b, o, rfl, hb, hc⟩
    · have : (ys.take k).length = 0 := by rw [s3]; rfl
      rw [List.length_take] at this
      omega
    · exact ⟨b, o, cap, h1, hb, fun i hi => by rw [hc i (by rw [List.length_take]; omega), List.getElem_take], h3, h4⟩
  · omega
end Go.Proofs.YtehhldpmhlocdaaDoor

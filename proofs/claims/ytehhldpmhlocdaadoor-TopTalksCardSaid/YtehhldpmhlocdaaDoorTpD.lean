/-
  ether: a buffer that is written; Encode.
-/
import Derived.Test.YtehhldpmhlocdaaDoorTpC
import Derived.Test.YtehhldpmhlocdaaDoorShelf
import Derived.Test.YtehhldpmhlocdaaDoorLaws
import Derived.Lib.BufferKept
import Derived.BigCall
namespace Go.Proofs.YtehhldpmhlocdaaDoor
open Go.RowKit Go.WideShapes Go.ChangeShapes
set_option linter.unusedVariables false

/-- A buffer that holds bytes. -/
def Buf (B b : Nat) (l : List UInt8) (w : World) : Prop := Lib.IsBuffer 49 5 B b (bcells l) w
theorem news_at {w : World} {b o : Nat} {l : List UInt8} (h : BytesAt w b o l) : ∀ j v, (bcells l)[j]? = some v → w.cell? ((⟨b, o, none⟩ : Addr).add j) = some v := fun j v hv => by
  have hj : j < l.length := by
    have := (List.getElem?_eq_some_iff.1 hv).1
    simpa [bcells] using this
  rw [bcells_get l j hj] at hv
  injection hv with hv
  rw [Lib.addr_add, h j hj, hv]

theorem write_any (B b : Nat) (l m : List UInt8) (c o n cap : Nat) (w : World) (h : Buf B b l w) (hB : B ≤ w.heap.size) (hn : m.length = n) (hcb : c ≠ b) (hc : BytesAt w c o m) (hlim : l.length + n ≤ 100000) :
    Calls Tryd.prog 16 #[.pointer (some ⟨b, 0, none⟩), .slice (some ⟨c, o, none⟩) n cap] w fun e w' => e = .returned (.tuple #[.int .i64 n, .nilIface]) ∧ Buf B b (l ++ m) w' ∧ Below B w w' := by
  refine (Tryd.Buffer_Write_any B b (bcells l) (bcells m) ⟨c, o, none⟩ n cap w h hB (bcells_one l) (by rw [bcells_length]; exact hn) hcb (news_at hc) (bcells_one m) (by rw [bcells_length]; omega)).mono ?_
  rintro e w' ⟨rfl, h1, h2, -⟩
  exact ⟨rfl, by unfold Buf; rw [bcells_append]; exact h1, h2⟩

theorem info5 : (Tryd.prog.info? 5).map (fun i => i.size) = some 1 := by kernel_rfl

set_option maxRecDepth 100000 in
set_option maxHeartbeats 8000000 in
theorem writeNone_any (B b : Nat) (l : List UInt8) (A : Option Addr) (cap : Nat) (w : World) (h : Buf B b l w) (hB : B ≤ w.heap.size) :
    Calls Tryd.prog 16 #[.pointer (some ⟨b, 0, none⟩), .slice A 0 cap] w fun e w' => e = .returned (.tuple #[.int .i64 0, .nilIface]) ∧ Buf B b l w' ∧ Below B w w' := by
  obtain ⟨hBb, v0, lr, hbk, -, -⟩ := id h
  have c2 : w.cell? ⟨b, 2, none⟩ = some (.int .i8 lr) := cell_of_row w b 2 _ 49 (0, 0) hbk
  have f2 : w.frozen? ⟨b, 2, none⟩ = false := frozen_of_row w b 2 _ 49 hbk
  have h' := h.setLast 0
  have HB0 := hide ((Below.refl B w).setCell (p := ⟨b, 2, none⟩) hBb (.int .i8 0))
  have hce : ∀ d dLen dCap W, (Builtin.copy_ #[24, 24] 3 #[.slice d dLen dCap, .slice A 0 cap]).run Tryd.prog W = .ok (goInt 0) W := fun d dLen dCap W => run_copy_none W 24 24 3 5 d A dLen dCap 0 cap Tryd.underlying24 info5 (by simp)
  obtain ⟨w1, hw1⟩ : ∃ u, u = w.setCell ⟨b, 2, none⟩ (.int .i8 0) := ⟨_, rfl⟩
  have HW1 := hide hw1
  have HT := hide (Tryd.Buffer_tryGrow_own B b 0 (bcells l) _ h')
  clear hbk h h' hw1
  go_enter Tryd.func16, Tryd.ntmps16
  go_wp2_with fail
  refine HT.out.mono ?_
  rintro e W1 (⟨rfl, xs, hxl, hI, hbel, -⟩ | ⟨rfl, rfl, hnr⟩)
  · obtain rfl : xs = [] := List.eq_nil_of_length_eq_zero hxl
    rw [List.append_nil] at hI
    have HI := hide hI; have HBel := hide (HB0.out.trans hbel)
    obtain ⟨-, lr2, hc⟩ := hI.cases
    clear hI hbel c2 f2 HT
    rcases hc with ⟨hb0, hbk2⟩ | ⟨g, cap2, cur, hbk2, -, -, hnc, hcm, -, -, -⟩
    · have d0 : W1.cell? ⟨b, 0, none⟩ = some (.slice none 0 0) := by rw [Lib.cell_of_heap hbk2]; rfl
      rw [hb0]
      clear hbk2
      go_wp2_with fail
      all_goals
        go_ret2
        exact ⟨rfl, HI.out, HBel.out⟩
    · have d0 : W1.cell? ⟨b, 0, none⟩ = some (.slice (some ⟨g, 0, none⟩) (bcells l).length cap2) := by rw [Lib.cell_of_heap hbk2]; rfl
      unfold maxLen at hcm
      clear hbk2
      go_wp2_with fail
      all_goals
        go_ret2
        exact ⟨rfl, HI.out, HBel.out⟩
  · obtain ⟨_, _, _, _, hlt⟩ := hnr
    omega

/-- A number in two bytes. -/
def two (n : Int) : List UInt8 := [byteOf (n / 256), byteOf n]

set_option maxRecDepth 100000 in
set_option maxHeartbeats 8000000 in
theorem put_any (B b : Nat) (l : List UInt8) (n : Int) (w : World) (h : Buf B b l w) (hB : B ≤ w.heap.size) (hlim : l.length ≤ 10000) :
    Calls Tryd.prog 17 #[.int .i64 n, .pointer (some ⟨b, 0, none⟩)] w fun e w' => e = .returned (.tuple #[]) ∧ Buf B b (l ++ two n) w' ∧ Below B w w' := by
  have hbl := h.lt
  have HW := hide (write_any B b l (two n) w.heap.size 0 2 2 (w.alloc (.cells #[.int .u8 (n / 256 % 256), .int .u8 (n % 256)] 5)) (h.alloc _) (by simp; omega) rfl (by omega) (fun i hi => by
    rw [Nat.zero_add]
    refine (cell_of_row _ _ i _ 5 (0, 0) (heap_alloc_new w _)).trans ?_
    rcases i with _ | _ | i
    · simp [two, byteOf_toNat]
    · simp [two, byteOf_toNat]
    · simp [two] at hi; omega) (by omega))
  have HB0 := hide ((Below.refl B w).alloc hB (.cells #[.int .u8 (n / 256 % 256), .int .u8 (n % 256)] 5))
  clear h
  go_enter Tryd.func17, Tryd.ntmps17
  go_wp2_with fail
  refine HW.out.mono ?_
  rintro e w2 ⟨rfl, h2, b2⟩
  have HI := hide h2; have HB2 := hide (HB0.out.trans b2)
  clear h2 b2 HW
  go_wp2_with fail
  go_end0
  exact ⟨rfl, HI.out, HB2.out⟩

/-- A frame's body, as bytes. -/
def BodyAt (w : World) (B : Nat) (x : Fra) (bd : List UInt8) : Prop := bd.length = x.n ∧ (bd = [] ∨ ∃ b o, x.A = some ⟨b, o, none⟩ ∧ b < B ∧ BytesAt w b o bd)
theorem BodyAt.below {w w' : World} {B base : Nat} {x : Fra} {bd : List UInt8} (h : BodyAt w B x bd) (hb : Below base w w') (hB : B ≤ base) : BodyAt w' B x bd := by
  obtain ⟨h0, h⟩ := h
  rcases h with h | ⟨b, o, h1, hlt, hc⟩
  · exact ⟨h0, .inl h⟩
  · exact ⟨h0, .inr ⟨b, o, h1, hlt, hc.below hb (by omega)⟩⟩
theorem BodyAt.mono {w : World} {B B' : Nat} {x : Fra} {bd : List UInt8} (h : BodyAt w B x bd) (hB : B ≤ B') : BodyAt w B' x bd := by
  obtain ⟨h0, h⟩ := h
  rcases h with h | ⟨b, o, h1, hlt, hc⟩
  · exact ⟨h0, .inl h⟩
  · exact ⟨h0, .inr ⟨b, o, h1, by omega, hc⟩⟩
theorem body_any (B b : Nat) (l : List UInt8) (x : Fra) (bd : List UInt8) (w : World) (h : Buf B b l w) (hB : B ≤ w.heap.size) (hb : BodyAt w B x bd) (hlim : l.length + x.n ≤ 100000) :
    Calls Tryd.prog 16 #[.pointer (some ⟨b, 0, none⟩), .slice x.A x.n x.cap] w fun e w' => e = .returned (.tuple #[.int .i64 x.n, .nilIface]) ∧ Buf B b (l ++ bd) w' ∧ Below B w w' := by
  obtain ⟨h0, hb⟩ := hb
  have hBb : B ≤ b := h.1
  rcases hb with rfl | ⟨c, o, hA, hlt, hc⟩
  · have hn : x.n = 0 := by simpa using h0.symm
    rw [hn, List.append_nil]
    exact writeNone_any B b l x.A x.cap w h hB
  · rw [hA]
    exact write_any B b l bd c o x.n x.cap w h hB h0 (by omega) hc hlim

/-- A frame's bytes. -/
def tagF (x : Fra) : List UInt8 := if x.tg then two 33024 ++ two (x.pr * 8192 + x.vl) else []
def encF (x : Fra) (bd : List UInt8) : List UInt8 := [x.d0, x.d1, x.d2, x.d3, x.d4, x.d5] ++ [x.s0, x.s1, x.s2, x.s3, x.s4, x.s5] ++ tagF x ++ two x.ty ++ bd
theorem vlOk_of {x : Fra} (h : rightF x = true) (ht : x.tg = true) : 0 ≤ x.vl ∧ x.vl ≤ 4094 ∧ 0 ≤ x.pr ∧ x.pr ≤ 7 := by
  unfold rightF vlOk at h
  cases hb : tyBad x
  · rw [hb, ht] at h
    simp at h
    exact h
  · rw [hb] at h
    simp at h
theorem tyOk_of {x : Fra} (h : rightF x = true) : 1536 ≤ x.ty ∧ x.ty ≤ 65535 ∧ x.ty ≠ 33024 ∧ x.n ≤ 1500 := by
  unfold rightF at h
  cases hb : tyBad x
  · unfold tyBad at hb
    simp at hb
    omega
  · rw [hb] at h
    simp at h
theorem untag_of {x : Fra} (h : rightF x = true) (ht : x.tg = false) : x.vl = 0 ∧ x.pr = 0 := by
  unfold rightF at h
  cases hb : tyBad x
  · rw [hb, ht] at h
    simp at h
    exact h
  · rw [hb] at h
    simp at h
theorem or_shl {p v : Int} (hp : 0 ≤ p ∧ p ≤ 7) (hv : 0 ≤ v ∧ v ≤ 4094) : bits .or .i64 (p * 8192) v = p * 8192 + v := by
  obtain ⟨a, rfl⟩ := Int.eq_ofNat_of_zero_le hp.1
  obtain ⟨b, rfl⟩ := Int.eq_ofNat_of_zero_le hv.1
  have e1 : BitVec.ofInt 64 ((a : Int) * 8192) = BitVec.ofNat 64 (a * 8192) := by
    apply BitVec.eq_of_toNat_eq; rw [BitVec.toNat_ofInt, BitVec.toNat_ofNat]; omega
  have e2 : BitVec.ofInt 64 (b : Int) = BitVec.ofNat 64 b := by
    apply BitVec.eq_of_toNat_eq; rw [BitVec.toNat_ofInt, BitVec.toNat_ofNat]; omega
  have e3 : a * 8192 ||| b = a * 8192 + b := by
    have := Nat.shiftLeft_add_eq_or_of_lt (i := 13) (b := b) (by omega) a
    rw [Nat.shiftLeft_eq] at this
    exact this.symm
  show IntKind.i64.wrap ((BitVec.ofInt 64 ((a : Int) * 8192) ||| BitVec.ofInt 64 (b : Int)).toNat : Int) = _
  rw [e1, e2, BitVec.toNat_or, BitVec.toNat_ofNat, BitVec.toNat_ofNat, Nat.mod_eq_of_lt (by omega), Nat.mod_eq_of_lt (by omega), e3, IntKind.wrap_i64]
  omega

theorem own_bytes {w : World} {B : Nat} {v : Value} {l : List UInt8} (h : w.ownsRow B 5 1 v (bcells l).length (bcells l)) (h0 : 0 < l.length) : ∃ g c, v = .slice (some ⟨g, 0, none⟩) l.length c ∧ (l.length ≤ c ∧ c ≤ 9223372036854775807) ∧ g < w.heap.size ∧ BytesAt w g 0 l := by
  have hcells := fun g hv => h.cells (g := g) hv
  rw [bcells_length] at h
  rcases h.2 with ⟨_, hn⟩ | ⟨g, cap, cur, rfl, _, hg, h1, h2, _⟩
  · omega
  · have hmx : maxLen = 9223372036854775807 := rfl
    refine ⟨g, cap, rfl, ⟨h1, by omega⟩, (Array.getElem?_eq_some_iff.1 hg).1, fun i hi => ?_⟩
    have := hcells g rfl i _ (bcells_get l i hi)
    rwa [Lib.addr_add] at this

def EncP (x : Fra) (bd : List UInt8) (w : World) (e : Ending) (w' : World) : Prop :=
  (rightF x = true ∧ ∃ g c, e = .returned (.tuple #[.slice (some ⟨g, 0, none⟩) (encF x bd).length c, .int .i64 0]) ∧ ((encF x bd).length ≤ c ∧ c ≤ 9223372036854775807) ∧ g < w'.heap.size ∧ BytesAt w' g 0 (encF x bd) ∧ Below w.heap.size w w') ∨
  (rightF x = false ∧ e = .returned (.tuple #[.slice none 0 0, .int .i64 1]) ∧ Below w.heap.size w w')

set_option maxRecDepth 100000 in
set_option maxHeartbeats 16000000 in
theorem encode_any (x : Fra) (bd : List UInt8) (w : World) (hbd : BodyAt w w.heap.size x bd) : Calls Tryd.prog 6 #[.agg #[.int .u8 (x.d0.toNat : Int), .int .u8 (x.d1.toNat : Int), .int .u8 (x.d2.toNat : Int), .int .u8 (x.d3.toNat : Int), .int .u8 (x.d4.toNat : Int), .int .u8 (x.d5.toNat : Int), .int .u8 (x.s0.toNat : Int), .int .u8 (x.s1.toNat : Int), .int .u8 (x.s2.toNat : Int), .int .u8 (x.s3.toNat : Int), .int .u8 (x.s4.toNat : Int), .int .u8 (x.s5.toNat : Int), .bool x.tg, .int .i64 x.vl, .int .i64 x.pr, .int .i64 x.ty, .slice x.A x.n x.cap]] w (EncP x bd w) := by
  have hmf : ∀ (fn : Fn) (first cap : Array Value) (w : World), (Instr.makeFunc fn first cap).run Tryd.prog w = .ok (.func fn first cap) w := fun _ _ _ _ => rfl
  have HB0 := hide (heap_alloc_new w (.cells #[.int .u8 (x.d0.toNat : Int), .int .u8 (x.d1.toNat : Int), .int .u8 (x.d2.toNat : Int), .int .u8 (x.d3.toNat : Int), .int .u8 (x.d4.toNat : Int), .int .u8 (x.d5.toNat : Int), .int .u8 (x.s0.toNat : Int), .int .u8 (x.s1.toNat : Int), .int .u8 (x.s2.toNat : Int), .int .u8 (x.s3.toNat : Int), .int .u8 (x.s4.toNat : Int), .int .u8 (x.s5.toNat : Int), .bool x.tg, .int .i64 x.vl, .int .i64 x.pr, .int .i64 x.ty, .slice x.A x.n x.cap] 26))
  have HBe := hide ((Below.refl w.heap.size w).alloc (Nat.le_refl _) (.cells #[.int .u8 (x.d0.toNat : Int), .int .u8 (x.d1.toNat : Int), .int .u8 (x.d2.toNat : Int), .int .u8 (x.d3.toNat : Int), .int .u8 (x.d4.toNat : Int), .int .u8 (x.d5.toNat : Int), .int .u8 (x.s0.toNat : Int), .int .u8 (x.s1.toNat : Int), .int .u8 (x.s2.toNat : Int), .int .u8 (x.s3.toNat : Int), .int .u8 (x.s4.toNat : Int), .int .u8 (x.s5.toNat : Int), .bool x.tg, .int .i64 x.vl, .int .i64 x.pr, .int .i64 x.ty, .slice x.A x.n x.cap] 26))
  have HD := hide hbd
  obtain ⟨r, hr⟩ : ∃ r, r = rightF x := ⟨_, rfl⟩
  have HR := hide hr
  clear hbd hr
  go_enter Tryd.func6, Tryd.ntmps6
  go_wp2_with (refine wpList_load_part rfl 26 (.tmp 1) rfl w.heap.size 0 rfl 26 _ #[.int .u8 (x.d0.toNat : Int), .int .u8 (x.d1.toNat : Int), .int .u8 (x.d2.toNat : Int), .int .u8 (x.d3.toNat : Int), .int .u8 (x.d4.toNat : Int), .int .u8 (x.d5.toNat : Int), .int .u8 (x.s0.toNat : Int), .int .u8 (x.s1.toNat : Int), .int .u8 (x.s2.toNat : Int), .int .u8 (x.s3.toNat : Int), .int .u8 (x.s4.toNat : Int), .int .u8 (x.s5.toNat : Int), .bool x.tg, .int .i64 x.vl, .int .i64 x.pr, .int .i64 x.ty, .slice x.A x.n x.cap] (0, 0) _ HB0.out Tryd.underlying26 rfl (by kernel_rfl) rfl ?_)
  refine (right_any x _).mono ?_
  rintro e w2 ⟨rfl, hb2⟩
  rw [← HR.out]
  have HB2 := hide (HBe.out.trans (hb2.mono (by simp)))
  have HK2 := hide ((hb2.block w.heap.size (by simp)).trans HB0.out)
  have hs2 : w.heap.size < w2.heap.size := by have := hb2.size; simp at this; omega
  clear hb2 HB0 HBe
  cases r
  · go_wp2_with fail
    go_ret2
    exact .inr ⟨HR.out.symm, rfl, HB2.out⟩
  obtain ⟨b, hb⟩ : ∃ b, b = w2.heap.size := ⟨_, rfl⟩
  have HI3 := hide (show Buf b b [] (w2.alloc (.cells #[.slice none 0 0, .int .i64 0, .int .i8 0] 49)) by rw [hb]; exact Lib.fresh_isBuffer 49 5 w2)
  have HK3 := hide (show (w2.alloc (.cells #[.slice none 0 0, .int .i64 0, .int .i8 0] 49)).heap[w.heap.size]? = some (.cells #[.int .u8 (x.d0.toNat : Int), .int .u8 (x.d1.toNat : Int), .int .u8 (x.d2.toNat : Int), .int .u8 (x.d3.toNat : Int), .int .u8 (x.d4.toNat : Int), .int .u8 (x.d5.toNat : Int), .int .u8 (x.s0.toNat : Int), .int .u8 (x.s1.toNat : Int), .int .u8 (x.s2.toNat : Int), .int .u8 (x.s3.toNat : Int), .int .u8 (x.s4.toNat : Int), .int .u8 (x.s5.toNat : Int), .bool x.tg, .int .i64 x.vl, .int .i64 x.pr, .int .i64 x.ty, .slice x.A x.n x.cap] 26 (0, 0)) from (Below.heap_alloc w2 _ _ hs2).trans HK2.out)
  have HB3 := hide (HB2.out.alloc HB2.out.size (.cells #[.slice none 0 0, .int .i64 0, .int .i8 0] 49))
  have HBb := hide hb
  have hpb : w.heap.size < b := by omega
  have hsz3 : b ≤ (w2.alloc (.cells #[.slice none 0 0, .int .i64 0, .int .i8 0] 49)).heap.size := by simp; omega
  clear hb
  go_wp2_with fail
  rw [← HBb.out]
  have HX := write_any b b [] [x.d0, x.d1, x.d2, x.d3, x.d4, x.d5] w.heap.size 0 6 6 _ HI3.out hsz3 rfl (by omega) (dst_laid HK3.out) (by simp)
  with_reducible refine HX.mono ?_
  clear HX
  rintro e w4 ⟨rfl, hi, hb4⟩
  have HI4 := hide hi; have HB4 := hide (HB3.out.trans (hb4.mono (Nat.le_of_lt hpb))); have HK4 := hide ((hb4.block w.heap.size hpb).trans HK3.out)
  have hsz4 : b ≤ w4.heap.size := by have := hb4.size; omega
  clear hi hb4 HI3 HB3 HK3
  go_wp2_with fail
  have HX := write_any b b ([] ++ [x.d0, x.d1, x.d2, x.d3, x.d4, x.d5]) [x.s0, x.s1, x.s2, x.s3, x.s4, x.s5] w.heap.size 6 6 6 _ HI4.out hsz4 rfl (by omega) (src_laid HK4.out) (by simp)
  with_reducible refine HX.mono ?_
  clear HX
  rintro e w5 ⟨rfl, hi, hb5⟩
  have HI5 := hide hi; have HB5 := hide (HB4.out.trans (hb5.mono (Nat.le_of_lt hpb))); have HK5 := hide ((hb5.block w.heap.size hpb).trans HK4.out)
  have hsz5 : b ≤ w5.heap.size := by have := hb5.size; omega
  clear hi hb5 HI4 HB4 HK4
  have HT := hide (tyOk_of HR.out.symm)
  have c12 : w5.cell? ⟨w.heap.size, 12, none⟩ = some (.bool x.tg) := cell_of_row w5 w.heap.size 12 _ 26 (0, 0) HK5.out
  cases htg : x.tg
  · rw [htg] at c12
    have HG := hide htg
    clear htg
    have c15 : w5.cell? ⟨w.heap.size, 15, none⟩ = some (.int .i64 x.ty) := cell_of_row w5 w.heap.size 15 _ 26 (0, 0) HK5.out
    go_wp2_with fail
    clear c15
    have HX := put_any b b ([] ++ [x.d0, x.d1, x.d2, x.d3, x.d4, x.d5] ++ [x.s0, x.s1, x.s2, x.s3, x.s4, x.s5]) x.ty _ HI5.out hsz5 (by simp)
    with_reducible refine HX.mono ?_
    clear HX
    rintro e w8 ⟨rfl, hi, hb8⟩
    have HI8 := hide hi; have HB8 := hide (HB5.out.trans (hb8.mono (Nat.le_of_lt hpb))); have HK8 := hide ((hb8.block w.heap.size hpb).trans HK5.out)
    have hsz8 : b ≤ w8.heap.size := by have := hb8.size; omega
    clear hi hb8 HI5 HB5 HK5
    have c16 : w8.cell? ⟨w.heap.size, 16, none⟩ = some (.slice x.A x.n x.cap) := cell_of_row w8 w.heap.size 16 _ 26 (0, 0) HK8.out
    go_wp2_with fail
    clear c16
    have HX := body_any b b ([] ++ [x.d0, x.d1, x.d2, x.d3, x.d4, x.d5] ++ [x.s0, x.s1, x.s2, x.s3, x.s4, x.s5] ++ two x.ty) x bd _ HI8.out hsz8 ((HD.out.below HB8.out (Nat.le_refl _)).mono (Nat.le_of_lt hpb)) (by simp [two]; have := HT.out.2.2.2; omega)
    with_reducible refine HX.mono ?_
    clear HX
    rintro e w9 ⟨rfl, hi, hb9⟩
    have HI9 := hide hi; have HB9 := hide (HB8.out.trans (hb9.mono (Nat.le_of_lt hpb))); have HK9 := hide ((hb9.block w.heap.size hpb).trans HK8.out)
    have hsz9 : b ≤ w9.heap.size := by have := hb9.size; omega
    clear hi hb9 HI8 HB8 HK8
    go_wp2_with fail
    refine (Tryd.Buffer_Bytes b b _ w9 HI9.out).mono ?_
    rintro e w10 ⟨v, rfl, hown, nq, hw10⟩
    obtain ⟨g, c, rfl, hlc, hgl, hby⟩ := own_bytes hown (by simp)
    have HB10 := hide (show Below w.heap.size w w10 by rw [hw10]; exact below_dn HB9.out nq)
    have HE := hide (show [] ++ [x.d0, x.d1, x.d2, x.d3, x.d4, x.d5] ++ [x.s0, x.s1, x.s2, x.s3, x.s4, x.s5] ++ two x.ty ++ bd = encF x bd by unfold encF tagF; rw [HG.out]; simp)
    rw [HE.out] at hlc hby ⊢
    have HP := hide (And.intro hlc (And.intro hgl hby))
    clear hlc hgl hby hown hw10
    go_wp2_with fail
    go_ret2
    exact .inl ⟨HR.out.symm, g, c, rfl, HP.out.1, HP.out.2.1, HP.out.2.2, HB10.out⟩
  · rw [htg] at c12
    have HG := hide htg
    have HV := hide (vlOk_of HR.out.symm htg)
    clear htg
    go_wp2_with fail
    clear c12
    have HX := put_any b b ([] ++ [x.d0, x.d1, x.d2, x.d3, x.d4, x.d5] ++ [x.s0, x.s1, x.s2, x.s3, x.s4, x.s5]) 33024 _ HI5.out hsz5 (by simp)
    with_reducible refine HX.mono ?_
    clear HX
    rintro e w6 ⟨rfl, hi, hb6⟩
    have HI6 := hide hi; have HB6 := hide (HB5.out.trans (hb6.mono (Nat.le_of_lt hpb))); have HK6 := hide ((hb6.block w.heap.size hpb).trans HK5.out)
    have hsz6 : b ≤ w6.heap.size := by have := hb6.size; omega
    clear hi hb6 HI5 HB5 HK5
    have c13 : w6.cell? ⟨w.heap.size, 13, none⟩ = some (.int .i64 x.vl) := cell_of_row w6 w.heap.size 13 _ 26 (0, 0) HK6.out
    have c14 : w6.cell? ⟨w.heap.size, 14, none⟩ = some (.int .i64 x.pr) := cell_of_row w6 w.heap.size 14 _ 26 (0, 0) HK6.out
    obtain ⟨v1, v2, v3, v4⟩ := HV.out
    have hor := or_shl (p := x.pr) (v := x.vl) ⟨v3, v4⟩ ⟨v1, v2⟩
    have hwr : IntKind.i64.wrap (x.pr * 8192) = x.pr * 8192 := by rw [IntKind.wrap_i64]; omega
    go_wp2_with fail
    clear c13 c14 hor v1 v2 v3 v4 hwr
    have HX := put_any b b ([] ++ [x.d0, x.d1, x.d2, x.d3, x.d4, x.d5] ++ [x.s0, x.s1, x.s2, x.s3, x.s4, x.s5] ++ two 33024) (x.pr * 8192 + x.vl) _ HI6.out hsz6 (by simp [two])
    with_reducible refine HX.mono ?_
    clear HX
    rintro e w7 ⟨rfl, hi, hb7⟩
    have HI7 := hide hi; have HB7 := hide (HB6.out.trans (hb7.mono (Nat.le_of_lt hpb))); have HK7 := hide ((hb7.block w.heap.size hpb).trans HK6.out)
    have hsz7 : b ≤ w7.heap.size := by have := hb7.size; omega
    clear hi hb7 HI6 HB6 HK6
    have c15 : w7.cell? ⟨w.heap.size, 15, none⟩ = some (.int .i64 x.ty) := cell_of_row w7 w.heap.size 15 _ 26 (0, 0) HK7.out
    go_wp2_with fail
    clear c15
    have HX := put_any b b ([] ++ [x.d0, x.d1, x.d2, x.d3, x.d4, x.d5] ++ [x.s0, x.s1, x.s2, x.s3, x.s4, x.s5] ++ two 33024 ++ two (x.pr * 8192 + x.vl)) x.ty _ HI7.out hsz7 (by simp [two])
    with_reducible refine HX.mono ?_
    clear HX
    rintro e w8 ⟨rfl, hi, hb8⟩
    have HI8 := hide hi; have HB8 := hide (HB7.out.trans (hb8.mono (Nat.le_of_lt hpb))); have HK8 := hide ((hb8.block w.heap.size hpb).trans HK7.out)
    have hsz8 : b ≤ w8.heap.size := by have := hb8.size; omega
    clear hi hb8 HI7 HB7 HK7
    have c16 : w8.cell? ⟨w.heap.size, 16, none⟩ = some (.slice x.A x.n x.cap) := cell_of_row w8 w.heap.size 16 _ 26 (0, 0) HK8.out
    go_wp2_with fail
    clear c16
    have HX := body_any b b ([] ++ [x.d0, x.d1, x.d2, x.d3, x.d4, x.d5] ++ [x.s0, x.s1, x.s2, x.s3, x.s4, x.s5] ++ two 33024 ++ two (x.pr * 8192 + x.vl) ++ two x.ty) x bd _ HI8.out hsz8 ((HD.out.below HB8.out (Nat.le_refl _)).mono (Nat.le_of_lt hpb)) (by simp [two]; have := HT.out.2.2.2; omega)
    with_reducible refine HX.mono ?_
    clear HX
    rintro e w9 ⟨rfl, hi, hb9⟩
    have HI9 := hide hi; have HB9 := hide (HB8.out.trans (hb9.mono (Nat.le_of_lt hpb))); have HK9 := hide ((hb9.block w.heap.size hpb).trans HK8.out)
    have hsz9 : b ≤ w9.heap.size := by have := hb9.size; omega
    clear hi hb9 HI8 HB8 HK8
    go_wp2_with fail
    refine (Tryd.Buffer_Bytes b b _ w9 HI9.out).mono ?_
    rintro e w10 ⟨v, rfl, hown, nq, hw10⟩
    obtain ⟨g, c, rfl, hlc, hgl, hby⟩ := own_bytes hown (by simp)
    have HB10 := hide (show Below w.heap.size w w10 by rw [hw10]; exact below_dn HB9.out nq)
    have HE := hide (show [] ++ [x.d0, x.d1, x.d2, x.d3, x.d4, x.d5] ++ [x.s0, x.s1, x.s2, x.s3, x.s4, x.s5] ++ two 33024 ++ two (x.pr * 8192 + x.vl) ++ two x.ty ++ bd = encF x bd by unfold encF tagF; rw [HG.out]; simp)
    rw [HE.out] at hlc hby ⊢
    have HP := hide (And.intro hlc (And.intro hgl hby))
    clear hlc hgl hby hown hw10
    go_wp2_with fail
    go_ret2
    exact .inl ⟨HR.out.symm, g, c, rfl, HP.out.1, HP.out.2.1, HP.out.2.2, HB10.out⟩
end Go.Proofs.YtehhldpmhlocdaaDoor

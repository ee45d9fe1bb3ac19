/-
  pick: mix, Weigh, Hash.
-/
import Derived.Test.YtehhldpmhlocdaaDoorRows
import Derived.Test.YtehhldpmhlocdaaDoorBase
import Derived.Test.YtehhldpmhlocdaaDoorFlat
import Derived.Test.YtehhldpmhlocdaaDoorTail
import Derived.Test.YtehhldpmhlocdaaDoorMade
import Derived.OwnWalk
import Derived.Laws.CopyOwn
import Derived.Deep.DeepCutAuto
namespace Go.Proofs.YtehhldpmhlocdaaDoor
open Go.RowKit Go.WideShapes Go.ChangeShapes
set_option linter.unusedVariables false

theorem own : ownKnob Tryd.prog.godebug = none := by kernel_rfl
theorem laidOut : laidOutB Tryd.prog = true := by kernel_rfl

/-- Bytes at an address. -/
def BytesAt (w : World) (b o : Nat) (l : List UInt8) : Prop := ∀ i, (hi : i < l.length) → w.cell? ⟨b, o + i, none⟩ = some (.int .u8 (l[i].toNat : Int))
theorem BytesAt.below {w w' : World} {base b o : Nat} {l : List UInt8} (h : BytesAt w b o l) (hb : Below base w w') (hl : b < base) : BytesAt w' b o l := fun i hi => (hb.cell (by exact hl)).trans (h i hi)

/-- One byte mixed in. -/
def mix1 (x : Int) (b : UInt8) : Int := bits .xor .u32 x ((b.toNat : Int) % 4294967296) * 16777619 % 4294967296
def mixL (x : Int) (l : List UInt8) : Int := l.foldl mix1 x
theorem mixL_snoc (x : Int) (l : List UInt8) (k : Nat) (hk : k < l.length) : mixL x (l.take (k + 1)) = mix1 (mixL x (l.take k)) l[k] := by
  unfold mixL
  rw [List.take_succ_eq_append_getElem hk, List.foldl_append]
  rfl
/-- A number's last byte. -/
def byteOf (n : Int) : UInt8 := UInt8.ofNat (n % 256).toNat
theorem byteOf_toNat (n : Int) : ((byteOf n).toNat : Int) = n % 256 := by
  unfold byteOf
  rw [UInt8.toNat_ofNat']
  omega

set_option maxHeartbeats 4000000 in
theorem mix_any (x : Int) (b o n cap : Nat) (l : List UInt8) (w : World) (hl : l.length = n) (hn : n ≤ 100) (hc : BytesAt w b o l) :
    Calls Tryd.prog 14 #[.int .u32 x, .slice (some ⟨b, o, none⟩) n cap] w fun e w' => e = .returned (.int .u32 (mixL x l)) ∧ Below w.heap.size w w' := by
  go_enter Tryd.func14, Tryd.ntmps14
  go_wp2_with fail
  go_loopw [0, 9] (fun v i wr => ∃ k : Nat, k ≤ n ∧ i = .int .i64 k ∧ v = .int .u32 (mixL x (l.take k)) ∧ Below w.heap.size w wr) (fun _ i _ => n - (intOf i).toNat)
  case atStart => exact ⟨0, by omega, rfl, rfl, Below.refl _ _⟩
  case round =>
    obtain ⟨k, hk, rfl, rfl, hbel⟩ := hrel
    by_cases hlt : k < n
    · have hk' : k < l.length := by omega
      have h1 : wr.cell? ⟨b, o + k, none⟩ = some (.int .u8 (l[k].toNat : Int)) := (hbel.cell (cell_lt (hc k hk'))).trans (hc k hk')
      have hk1 : (k : Int) < (n : Int) := by omega
      have HX := hide (mixL_snoc x l k hk'); have HB := hide hbel
      clear hbel
      go_wp2_with fail
      go_roundw
      case rel => exact ⟨k + 1, by omega, by go_num, by rw [HX.out]; rfl, HB.out⟩
      case measure => simp [intOf]; omega
    · obtain rfl : k = n := by omega
      have HX := hide (show l.take k = l by rw [← hl]; exact List.take_length); have HB := hide hbel
      clear hbel
      go_wp2_with fail
      go_ret
      exact ⟨by simp [HX.out], HB.out⟩

/-- What a member weighs. -/
def weighK (h m : Int) : Nat → Int
  | 0 => h
  | k + 1 => mixL (weighK h m k) [byteOf (m / 2 ^ (8 * k))]

def spreadW (x : Int) : Int := bits .xor .u32 x (x / 32768) * 739982445 % 4294967296
def weigh (h m : Int) : Int := bits .xor .u32 (spreadW (weighK h m 4)) (spreadW (weighK h m 4) / 4096)

set_option maxHeartbeats 4000000 in
theorem weigh_any (h m : Int) (w : World) : Calls Tryd.prog 11 #[.int .u32 h, .int .i64 m] w fun e w' => e = .returned (.int .u32 (weigh h m)) ∧ Below w.heap.size w w' := by
  go_enter Tryd.func11, Tryd.ntmps11
  go_wp2_with fail
  go_loopw [5, 8] (fun v i wr => ∃ k : Nat, k ≤ 4 ∧ i = .int .i64 k ∧ v = .int .u32 (weighK h m k) ∧ Below w.heap.size w wr) (fun _ i _ => 4 - (intOf i).toNat)
  case atStart => exact ⟨0, by omega, rfl, rfl, Below.refl _ _⟩
  case round =>
    obtain ⟨k, hk, rfl, rfl, hbel⟩ := hrel
    by_cases hlt : k < 4
    · have hk1 : (k : Int) < 4 := by omega
      have HB := hide (hbel.alloc hbel.size (.cells #[.int .u8 (m / 2 ^ (8 * k) % 256)] 5))
      have hsz := hbel.size
      have HM := hide (mix_any (weighK h m k) wr.heap.size 0 1 1 [byteOf (m / 2 ^ (8 * k))] (wr.alloc (.cells #[.int .u8 (m / 2 ^ (8 * k) % 256)] 5)) rfl (by omega) (fun i hi => by
        obtain rfl : i = 0 := by simpa using hi
        refine (cell_of_row _ _ 0 _ 5 (0, 0) (heap_alloc_new wr _)).trans ?_
        simp [byteOf_toNat]))
      clear hbel
      go_wp2_with fail
      refine HM.out.mono ?_
      rintro e w2 ⟨rfl, hb2⟩
      have HB2 := hide (HB.out.trans (hb2.mono (by simp; omega)))
      clear hb2 HM HB
      go_wp2_with fail
      go_roundw
      case rel => exact ⟨k + 1, by omega, by go_num, rfl, HB2.out⟩
      case measure => simp [intOf]; omega
    · obtain rfl : k = 4 := by omega
      have HB := hide hbel
      clear hbel
      go_wp2_with fail
      go_ret
      exact ⟨rfl, HB.out⟩

/-- A frame: its numbers; its body's slice. -/
structure Fra where
  d0 : UInt8
  d1 : UInt8
  d2 : UInt8
  d3 : UInt8
  d4 : UInt8
  d5 : UInt8
  s0 : UInt8
  s1 : UInt8
  s2 : UInt8
  s3 : UInt8
  s4 : UInt8
  s5 : UInt8
  tg : Bool
  vl : Int
  pr : Int
  ty : Int
  A : Option Addr
  n : Nat
  cap : Nat
def hashF (x : Fra) : Int := mixL (mixL (mixL 2166136261 [x.d0, x.d1, x.d2, x.d3, x.d4, x.d5]) [x.s0, x.s1, x.s2, x.s3, x.s4, x.s5]) [byteOf (x.vl / 256), byteOf x.vl]

theorem dst_laid {w : World} {b t : Nat} {fr : Nat × Nat} {x : Fra} (h : w.heap[b]? = some (.cells #[.int .u8 (x.d0.toNat : Int), .int .u8 (x.d1.toNat : Int), .int .u8 (x.d2.toNat : Int), .int .u8 (x.d3.toNat : Int), .int .u8 (x.d4.toNat : Int), .int .u8 (x.d5.toNat : Int), .int .u8 (x.s0.toNat : Int), .int .u8 (x.s1.toNat : Int), .int .u8 (x.s2.toNat : Int), .int .u8 (x.s3.toNat : Int), .int .u8 (x.s4.toNat : Int), .int .u8 (x.s5.toNat : Int), .bool x.tg, .int .i64 x.vl, .int .i64 x.pr, .int .i64 x.ty, .slice x.A x.n x.cap] t fr)) : BytesAt w b 0 [x.d0, x.d1, x.d2, x.d3, x.d4, x.d5] := fun i hi => by
  rw [Nat.zero_add, cell_of_row w b i _ t fr h]
  rcases i with _ | _ | _ | _ | _ | _ | i
  all_goals first | rfl | (simp at hi; omega)
theorem src_laid {w : World} {b t : Nat} {fr : Nat × Nat} {x : Fra} (h : w.heap[b]? = some (.cells #[.int .u8 (x.d0.toNat : Int), .int .u8 (x.d1.toNat : Int), .int .u8 (x.d2.toNat : Int), .int .u8 (x.d3.toNat : Int), .int .u8 (x.d4.toNat : Int), .int .u8 (x.d5.toNat : Int), .int .u8 (x.s0.toNat : Int), .int .u8 (x.s1.toNat : Int), .int .u8 (x.s2.toNat : Int), .int .u8 (x.s3.toNat : Int), .int .u8 (x.s4.toNat : Int), .int .u8 (x.s5.toNat : Int), .bool x.tg, .int .i64 x.vl, .int .i64 x.pr, .int .i64 x.ty, .slice x.A x.n x.cap] t fr)) : BytesAt w b 6 [x.s0, x.s1, x.s2, x.s3, x.s4, x.s5] := fun i hi => by
  rw [cell_of_row w b (6 + i) _ t fr h]
  rcases i with _ | _ | _ | _ | _ | _ | i
  all_goals first | rfl | (simp at hi; omega)

set_option maxRecDepth 100000 in
set_option maxHeartbeats 4000000 in
theorem hash_any (x : Fra) (w : World) : Calls Tryd.prog 5 #[.agg #[.int .u8 (x.d0.toNat : Int), .int .u8 (x.d1.toNat : Int), .int .u8 (x.d2.toNat : Int), .int .u8 (x.d3.toNat : Int), .int .u8 (x.d4.toNat : Int), .int .u8 (x.d5.toNat : Int), .int .u8 (x.s0.toNat : Int), .int .u8 (x.s1.toNat : Int), .int .u8 (x.s2.toNat : Int), .int .u8 (x.s3.toNat : Int), .int .u8 (x.s4.toNat : Int), .int .u8 (x.s5.toNat : Int), .bool x.tg, .int .i64 x.vl, .int .i64 x.pr, .int .i64 x.ty, .slice x.A x.n x.cap]] w fun e w' => e = .returned (.int .u32 (hashF x)) ∧ Below w.heap.size w w' := by
  have HB0 := hide (heap_alloc_new w (.cells #[.int .u8 (x.d0.toNat : Int), .int .u8 (x.d1.toNat : Int), .int .u8 (x.d2.toNat : Int), .int .u8 (x.d3.toNat : Int), .int .u8 (x.d4.toNat : Int), .int .u8 (x.d5.toNat : Int), .int .u8 (x.s0.toNat : Int), .int .u8 (x.s1.toNat : Int), .int .u8 (x.s2.toNat : Int), .int .u8 (x.s3.toNat : Int), .int .u8 (x.s4.toNat : Int), .int .u8 (x.s5.toNat : Int), .bool x.tg, .int .i64 x.vl, .int .i64 x.pr, .int .i64 x.ty, .slice x.A x.n x.cap] 26))
  have HBe := hide ((Below.refl w.heap.size w).alloc (Nat.le_refl _) (.cells #[.int .u8 (x.d0.toNat : Int), .int .u8 (x.d1.toNat : Int), .int .u8 (x.d2.toNat : Int), .int .u8 (x.d3.toNat : Int), .int .u8 (x.d4.toNat : Int), .int .u8 (x.d5.toNat : Int), .int .u8 (x.s0.toNat : Int), .int .u8 (x.s1.toNat : Int), .int .u8 (x.s2.toNat : Int), .int .u8 (x.s3.toNat : Int), .int .u8 (x.s4.toNat : Int), .int .u8 (x.s5.toNat : Int), .bool x.tg, .int .i64 x.vl, .int .i64 x.pr, .int .i64 x.ty, .slice x.A x.n x.cap] 26))
  obtain ⟨w1, hw1⟩ : ∃ u, u = w.alloc (.cells #[.int .u8 (x.d0.toNat : Int), .int .u8 (x.d1.toNat : Int), .int .u8 (x.d2.toNat : Int), .int .u8 (x.d3.toNat : Int), .int .u8 (x.d4.toNat : Int), .int .u8 (x.d5.toNat : Int), .int .u8 (x.s0.toNat : Int), .int .u8 (x.s1.toNat : Int), .int .u8 (x.s2.toNat : Int), .int .u8 (x.s3.toNat : Int), .int .u8 (x.s4.toNat : Int), .int .u8 (x.s5.toNat : Int), .bool x.tg, .int .i64 x.vl, .int .i64 x.pr, .int .i64 x.ty, .slice x.A x.n x.cap] 26) := ⟨_, rfl⟩
  have HW1 := hide hw1
  rw [← hw1] at HB0 HBe
  have hlt : w.heap.size < w1.heap.size := by rw [hw1]; simp
  clear hw1
  go_enter Tryd.func5, Tryd.ntmps5
  go_wp2_with fail
  rw [← HW1.out]
  refine wp_region_class (by kernel_rfl) (by kernel_rfl) (fun C hC hS hN => ?_)
  have HK := hide (fun u : Of C => show u.w.heap[w.heap.size]? = some (.cells #[.int .u8 (x.d0.toNat : Int), .int .u8 (x.d1.toNat : Int), .int .u8 (x.d2.toNat : Int), .int .u8 (x.d3.toNat : Int), .int .u8 (x.d4.toNat : Int), .int .u8 (x.d5.toNat : Int), .int .u8 (x.s0.toNat : Int), .int .u8 (x.s1.toNat : Int), .int .u8 (x.s2.toNat : Int), .int .u8 (x.s3.toNat : Int), .int .u8 (x.s4.toNat : Int), .int .u8 (x.s5.toNat : Int), .bool x.tg, .int .i64 x.vl, .int .i64 x.pr, .int .i64 x.ty, .slice x.A x.n x.cap] 26 (0, 0)) from ((hC _ u.ok).block w.heap.size hlt).trans HB0.out)
  have HM1 := hide (fun u : Of C => mix_any 2166136261 w.heap.size 0 6 6 [x.d0, x.d1, x.d2, x.d3, x.d4, x.d5] u.w rfl (by omega) (dst_laid (HK.out u)))
  have HM2 := hide (fun u : Of C => mix_any (mixL 2166136261 [x.d0, x.d1, x.d2, x.d3, x.d4, x.d5]) w.heap.size 6 6 6 [x.s0, x.s1, x.s2, x.s3, x.s4, x.s5] u.w rfl (by omega) (src_laid (HK.out u)))
  have HS := hide hS; clear hS
  repeat (first
    | go_big_quiet_step ((first
      | (go_at_call 14; first | (with_reducible exact Calls.of_class HS.out (HM1.out _)) | (with_reducible exact Calls.of_class HS.out (HM2.out _))))))
  refine wpQuiet_nil ?_
  intro u hu
  have HU := hide hu
  have HKu := hide ((hu.block w.heap.size hlt).trans HB0.out)
  have c13 : u.cell? ⟨w.heap.size, 13, none⟩ = some (.int .i64 x.vl) := cell_of_row u w.heap.size 13 _ 26 (0, 0) HKu.out
  clear hu hC HM1 HM2 HK HS
  go_wp2_with fail
  have hsz := HU.out.size
  refine (mix_any _ u.heap.size 0 2 2 [byteOf (x.vl / 256), byteOf x.vl] _ rfl (by omega) (fun i hi => by
    rw [Nat.zero_add]
    refine (cell_of_row _ _ i _ 5 (0, 0) (heap_alloc_new u _)).trans ?_
    rcases i with _ | _ | i
    · simp [byteOf_toNat]
    · simp [byteOf_toNat]
    · simp at hi; omega)).mono ?_
  rintro e w2 ⟨rfl, hb2⟩
  have HB2 := hide (HBe.out.trans ((HU.out.trans (((Below.refl u.heap.size u).alloc (Nat.le_refl _) _).mono hsz |>.trans (hb2.mono (by simp; omega)))).mono (Nat.le_of_lt hlt)))
  clear hb2
  go_wp2_with fail
  go_ret
  exact ⟨rfl, HB2.out⟩
end Go.Proofs.YtehhldpmhlocdaaDoor

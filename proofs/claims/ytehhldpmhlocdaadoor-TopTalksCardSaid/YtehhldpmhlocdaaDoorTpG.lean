/-
  ether's Decode, of a frame's bytes.
-/
import Derived.Test.YtehhldpmhlocdaaDoorTpF
namespace Go.Proofs.YtehhldpmhlocdaaDoor
open Go.RowKit Go.WideShapes Go.ChangeShapes
set_option linter.unusedVariables false

theorem res_dec {fn : Func} {a b : Tmp} (h : fn.results = #[.cell a 26, .tmp b]) (tmps : Array Value) (w : World) (p : Nat) (z : Fra) (hp : tmps.getD a undef = .pointer (some ⟨p, 0, none⟩))
    (hg : w.heap[p]? = some (.cells #[.int .u8 (z.d0.toNat : Int), .int .u8 (z.d1.toNat : Int), .int .u8 (z.d2.toNat : Int), .int .u8 (z.d3.toNat : Int), .int .u8 (z.d4.toNat : Int), .int .u8 (z.d5.toNat : Int), .int .u8 (z.s0.toNat : Int), .int .u8 (z.s1.toNat : Int), .int .u8 (z.s2.toNat : Int), .int .u8 (z.s3.toNat : Int), .int .u8 (z.s4.toNat : Int), .int .u8 (z.s5.toNat : Int), .bool z.tg, .int .i64 z.vl, .int .i64 z.pr, .int .i64 z.ty, .slice z.A z.n z.cap] 26 (0, 0))) : (results fn tmps).run Tryd.prog w = .ok (.tuple #[.agg #[.int .u8 (z.d0.toNat : Int), .int .u8 (z.d1.toNat : Int), .int .u8 (z.d2.toNat : Int), .int .u8 (z.d3.toNat : Int), .int .u8 (z.d4.toNat : Int), .int .u8 (z.d5.toNat : Int), .int .u8 (z.s0.toNat : Int), .int .u8 (z.s1.toNat : Int), .int .u8 (z.s2.toNat : Int), .int .u8 (z.s3.toNat : Int), .int .u8 (z.s4.toNat : Int), .int .u8 (z.s5.toNat : Int), .bool z.tg, .int .i64 z.vl, .int .i64 z.pr, .int .i64 z.ty, .slice z.A z.n z.cap], tmps.getD b undef]) w := by
  have hp' : tmps[a]?.getD undef = .pointer (some ⟨p, 0, none⟩) := by simpa using hp
  have hi : (Tryd.prog.info? 26).map (·.size) = some (#[.int .u8 (z.d0.toNat : Int), .int .u8 (z.d1.toNat : Int), .int .u8 (z.d2.toNat : Int), .int .u8 (z.d3.toNat : Int), .int .u8 (z.d4.toNat : Int), .int .u8 (z.d5.toNat : Int), .int .u8 (z.s0.toNat : Int), .int .u8 (z.s1.toNat : Int), .int .u8 (z.s2.toNat : Int), .int .u8 (z.s3.toNat : Int), .int .u8 (z.s4.toNat : Int), .int .u8 (z.s5.toNat : Int), .bool z.tg, .int .i64 z.vl, .int .i64 z.pr, .int .i64 z.ty, .slice z.A z.n z.cap] : Array Value).size := by kernel_rfl
  have l1 := run_loadVar_row w p 26 26 #[.int .u8 (z.d0.toNat : Int), .int .u8 (z.d1.toNat : Int), .int .u8 (z.d2.toNat : Int), .int .u8 (z.d3.toNat : Int), .int .u8 (z.d4.toNat : Int), .int .u8 (z.d5.toNat : Int), .int .u8 (z.s0.toNat : Int), .int .u8 (z.s1.toNat : Int), .int .u8 (z.s2.toNat : Int), .int .u8 (z.s3.toNat : Int), .int .u8 (z.s4.toNat : Int), .int .u8 (z.s5.toNat : Int), .bool z.tg, .int .i64 z.vl, .int .i64 z.pr, .int .i64 z.ty, .slice z.A z.n z.cap] (0, 0) _ hg Tryd.underlying26 rfl hi
  simp [results, h, hp', asAddr, l1]

/-- The same frame, but for where its body lies. -/
def LikeF (x y : Fra) : Prop := ∃ A c, y = { x with A := A, cap := c }
theorem LikeF.right {x y : Fra} (h : LikeF x y) : rightF y = rightF x := by
  obtain ⟨A, c, rfl⟩ := h
  rfl
theorem LikeF.hash {x y : Fra} (h : LikeF x y) : hashF y = hashF x := by
  obtain ⟨A, c, rfl⟩ := h
  rfl
theorem SrcAt.mono {w : World} {B B' : Nat} {A : Option Addr} {cap : Nat} {ys : List UInt8} (h : SrcAt w B A cap ys) (hB : B ≤ B') : SrcAt w B' A cap ys := by
  obtain ⟨h1, h2, h3⟩ := h
  refine ⟨h1, h2, ?_⟩
  rcases h3 with h3 | ⟨b, o, rfl, hb, hc⟩
  · exact .inl h3
  · exact .inr ⟨b, o, rfl, by omega, hc⟩
set_option maxRecDepth 100000 in
set_option maxHeartbeats 8000000 in
theorem decode_any (A : Option Addr) (cap N : Nat) (x : Fra) (bd : List UInt8) (w : World) (hR : rightF x = true) (hN : (encF x bd).length = N) (hb : bd.length = x.n) (hs : SrcAt w w.heap.size A cap (encF x bd)) :
    Calls Tryd.prog 7 #[.slice A N cap] w fun e w' => ∃ y, LikeF x y ∧ e = .returned (.tuple #[.agg #[.int .u8 (y.d0.toNat : Int), .int .u8 (y.d1.toNat : Int), .int .u8 (y.d2.toNat : Int), .int .u8 (y.d3.toNat : Int), .int .u8 (y.d4.toNat : Int), .int .u8 (y.d5.toNat : Int), .int .u8 (y.s0.toNat : Int), .int .u8 (y.s1.toNat : Int), .int .u8 (y.s2.toNat : Int), .int .u8 (y.s3.toNat : Int), .int .u8 (y.s4.toNat : Int), .int .u8 (y.s5.toNat : Int), .bool y.tg, .int .i64 y.vl, .int .i64 y.pr, .int .i64 y.ty, .slice y.A y.n y.cap], .int .i64 0]) ∧ Below w.heap.size w w' := by
  have HB1 := hide ((Below.refl w.heap.size w).alloc (Nat.le_refl _) (.cells #[.int .u8 0, .int .u8 0, .int .u8 0, .int .u8 0, .int .u8 0, .int .u8 0, .int .u8 0, .int .u8 0, .int .u8 0, .int .u8 0, .int .u8 0, .int .u8 0, .bool false, .int .i64 0, .int .i64 0, .int .i64 0, .slice none 0 0] 26))
  have HC := hide ((read_any A cap N x bd (w.alloc (.cells #[.int .u8 0, .int .u8 0, .int .u8 0, .int .u8 0, .int .u8 0, .int .u8 0, .int .u8 0, .int .u8 0, .int .u8 0, .int .u8 0, .int .u8 0, .int .u8 0, .bool false, .int .i64 0, .int .i64 0, .int .i64 0, .slice none 0 0] 26)) hR hN hb (SrcAt.mono (hs.below HB1.out (Nat.le_refl _)) (by simp))).mono (fun e w' h => (show ∃ y, LikeF x y ∧ e = .returned (.tuple #[.agg #[.int .u8 (y.d0.toNat : Int), .int .u8 (y.d1.toNat : Int), .int .u8 (y.d2.toNat : Int), .int .u8 (y.d3.toNat : Int), .int .u8 (y.d4.toNat : Int), .int .u8 (y.d5.toNat : Int), .int .u8 (y.s0.toNat : Int), .int .u8 (y.s1.toNat : Int), .int .u8 (y.s2.toNat : Int), .int .u8 (y.s3.toNat : Int), .int .u8 (y.s4.toNat : Int), .int .u8 (y.s5.toNat : Int), .bool y.tg, .int .i64 y.vl, .int .i64 y.pr, .int .i64 y.ty, .slice y.A y.n y.cap], .bool true]) ∧ Below _ _ w' from by obtain ⟨A', c', h1, h2⟩ := h; exact ⟨{ x with A := A', cap := c' }, ⟨A', c', rfl⟩, h1, h2⟩)))
  have HZ1 := hide (heap_alloc_new w (.cells #[.int .u8 0, .int .u8 0, .int .u8 0, .int .u8 0, .int .u8 0, .int .u8 0, .int .u8 0, .int .u8 0, .int .u8 0, .int .u8 0, .int .u8 0, .int .u8 0, .bool false, .int .i64 0, .int .i64 0, .int .i64 0, .slice none 0 0] 26))
  have HRt := hide hR
  clear hs hN hR hb
  go_enter Tryd.func7, Tryd.ntmps7
  go_wp2_with fail
  refine HC.out.mono ?_
  rintro e w2 ⟨y, hy, rfl, hb2⟩
  have HY := hide hy
  have HB2 := hide (HB1.out.trans (hb2.mono (by simp)))
  have HZ2 := hide ((hb2.block w.heap.size (by simp)).trans HZ1.out)
  have hs2 : w.heap.size < w2.heap.size := by have := hb2.size; simp at this; omega
  have HN2 := hide (heap_alloc_new w2 (.cells #[.int .u8 0, .int .u8 0, .int .u8 0, .int .u8 0, .int .u8 0, .int .u8 0, .int .u8 0, .int .u8 0, .int .u8 0, .int .u8 0, .int .u8 0, .int .u8 0, .bool false, .int .i64 0, .int .i64 0, .int .i64 0, .slice none 0 0] 26))
  clear hb2 hy HC HB1 HZ1
  go_wp2_with (first
    | (refine wpList_store_at rfl rfl w2.heap.size 0 #[.int .u8 (y.d0.toNat : Int), .int .u8 (y.d1.toNat : Int), .int .u8 (y.d2.toNat : Int), .int .u8 (y.d3.toNat : Int), .int .u8 (y.d4.toNat : Int), .int .u8 (y.d5.toNat : Int), .int .u8 (y.s0.toNat : Int), .int .u8 (y.s1.toNat : Int), .int .u8 (y.s2.toNat : Int), .int .u8 (y.s3.toNat : Int), .int .u8 (y.s4.toNat : Int), .int .u8 (y.s5.toNat : Int), .bool y.tg, .int .i64 y.vl, .int .i64 y.pr, .int .i64 y.ty, .slice y.A y.n y.cap] rfl rfl 26 HN2.out (by kernel_rfl) (by simp) (fra_ones y) #[.int .u8 (y.d0.toNat : Int), .int .u8 (y.d1.toNat : Int), .int .u8 (y.d2.toNat : Int), .int .u8 (y.d3.toNat : Int), .int .u8 (y.d4.toNat : Int), .int .u8 (y.d5.toNat : Int), .int .u8 (y.s0.toNat : Int), .int .u8 (y.s1.toNat : Int), .int .u8 (y.s2.toNat : Int), .int .u8 (y.s3.toNat : Int), .int .u8 (y.s4.toNat : Int), .int .u8 (y.s5.toNat : Int), .bool y.tg, .int .i64 y.vl, .int .i64 y.pr, .int .i64 y.ty, .slice y.A y.n y.cap] rfl ?_; intro w3 hf3 hb3; have HQ3 := hide hb3; have HZ3 := hide (hf3.keep (show (w2.alloc (.cells #[.int .u8 0, .int .u8 0, .int .u8 0, .int .u8 0, .int .u8 0, .int .u8 0, .int .u8 0, .int .u8 0, .int .u8 0, .int .u8 0, .int .u8 0, .int .u8 0, .bool false, .int .i64 0, .int .i64 0, .int .i64 0, .slice none 0 0] 26)).heap[w.heap.size]? = _ from (Below.heap_alloc w2 _ _ hs2).trans HZ2.out) (by omega)); have HB3 := hide ((HB2.out.alloc HB2.out.size (.cells #[.int .u8 0, .int .u8 0, .int .u8 0, .int .u8 0, .int .u8 0, .int .u8 0, .int .u8 0, .int .u8 0, .int .u8 0, .int .u8 0, .int .u8 0, .int .u8 0, .bool false, .int .i64 0, .int .i64 0, .int .i64 0, .slice none 0 0] 26)).trans (hf3.below HB2.out.size (by have := HB2.out.size; simp; omega))); have hs3 : w2.heap.size < w3.heap.size := (by have := hf3.size; simp at this; omega); clear hf3 hb3)
    | (refine wpList_load_wt (ty := 26) (x := .tmp 4) rfl rfl w2.heap.size 0 rfl 26 #[.int .u8 (y.d0.toNat : Int), .int .u8 (y.d1.toNat : Int), .int .u8 (y.d2.toNat : Int), .int .u8 (y.d3.toNat : Int), .int .u8 (y.d4.toNat : Int), .int .u8 (y.d5.toNat : Int), .int .u8 (y.s0.toNat : Int), .int .u8 (y.s1.toNat : Int), .int .u8 (y.s2.toNat : Int), .int .u8 (y.s3.toNat : Int), .int .u8 (y.s4.toNat : Int), .int .u8 (y.s5.toNat : Int), .bool y.tg, .int .i64 y.vl, .int .i64 y.pr, .int .i64 y.ty, .slice y.A y.n y.cap] (0, 0) _ HQ3.out Tryd.underlying26 rfl (by kernel_rfl) rfl ?_))
  refine (right_any y _).mono ?_
  rintro e w4 ⟨rfl, hb4⟩
  rw [HY.out.right, HRt.out]
  have HQ4 := hide ((hb4.block w2.heap.size hs3).trans HQ3.out)
  have HZ4 := hide ((hb4.block w.heap.size (by omega)).trans HZ3.out)
  have HB4 := hide (HB3.out.trans (hb4.mono HB3.out.size))
  clear hb4 HQ3 HZ3 HB3
  go_wp2_with (first
    | (refine wpList_load_part rfl 26 (.tmp 4) rfl w2.heap.size 0 rfl 26 _ #[.int .u8 (y.d0.toNat : Int), .int .u8 (y.d1.toNat : Int), .int .u8 (y.d2.toNat : Int), .int .u8 (y.d3.toNat : Int), .int .u8 (y.d4.toNat : Int), .int .u8 (y.d5.toNat : Int), .int .u8 (y.s0.toNat : Int), .int .u8 (y.s1.toNat : Int), .int .u8 (y.s2.toNat : Int), .int .u8 (y.s3.toNat : Int), .int .u8 (y.s4.toNat : Int), .int .u8 (y.s5.toNat : Int), .bool y.tg, .int .i64 y.vl, .int .i64 y.pr, .int .i64 y.ty, .slice y.A y.n y.cap] (0, 0) _ HQ4.out Tryd.underlying26 rfl (by kernel_rfl) rfl ?_)
    | (refine wpList_store_at rfl rfl w.heap.size 0 #[.int .u8 (y.d0.toNat : Int), .int .u8 (y.d1.toNat : Int), .int .u8 (y.d2.toNat : Int), .int .u8 (y.d3.toNat : Int), .int .u8 (y.d4.toNat : Int), .int .u8 (y.d5.toNat : Int), .int .u8 (y.s0.toNat : Int), .int .u8 (y.s1.toNat : Int), .int .u8 (y.s2.toNat : Int), .int .u8 (y.s3.toNat : Int), .int .u8 (y.s4.toNat : Int), .int .u8 (y.s5.toNat : Int), .bool y.tg, .int .i64 y.vl, .int .i64 y.pr, .int .i64 y.ty, .slice y.A y.n y.cap] rfl rfl 26 HZ4.out (by kernel_rfl) (by simp) (fra_ones y) #[.int .u8 (y.d0.toNat : Int), .int .u8 (y.d1.toNat : Int), .int .u8 (y.d2.toNat : Int), .int .u8 (y.d3.toNat : Int), .int .u8 (y.d4.toNat : Int), .int .u8 (y.d5.toNat : Int), .int .u8 (y.s0.toNat : Int), .int .u8 (y.s1.toNat : Int), .int .u8 (y.s2.toNat : Int), .int .u8 (y.s3.toNat : Int), .int .u8 (y.s4.toNat : Int), .int .u8 (y.s5.toNat : Int), .bool y.tg, .int .i64 y.vl, .int .i64 y.pr, .int .i64 y.ty, .slice y.A y.n y.cap] rfl ?_; intro w5 hf5 hb5; have HB5 := hide hb5; have HF5 := hide hf5; clear hf5 hb5))
  (try simp only [Exit.inBlock, Exit.then])
  refine bodyPost_ret (res_dec rfl _ _ w.heap.size y rfl HB5.out) rfl ⟨y, HY.out, rfl, HB4.out.trans (HF5.out.below (Nat.le_refl _) HB4.out.size)⟩
end Go.Proofs.YtehhldpmhlocdaaDoor

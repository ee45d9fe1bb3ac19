/-
  Decode's closure.
-/
import Derived.Test.YtooieocfgifpgaaLpP
namespace Go.Proofs.Ytooieocfgifpgaa
open Go.RowKit Go.WideShapes Go.ChangeShapes
set_option linter.unusedVariables false

/-- The bytes open with a whole message. -/
def DecAt (ys : List UInt8) : Prop := ∃ (a p : Inf) (d : Int) (zs : List UInt8), a.wf ∧ a.fine ∧ p.wf ∧ p.fine ∧ (0 ≤ d ∧ d ≤ 65535) ∧ ys = encL a p d ++ zs
theorem dec_no {ys pre y : List UInt8} {k : Nat} (h : ys = pre ++ y) (hp : pre.length = k)
    (hno : ∀ (a p : Inf) (d : Int) (zs : List UInt8), a.wf → a.fine → p.wf → p.fine → (0 ≤ d ∧ d ≤ 65535) → y = (encL a p d ++ zs).drop k → False) : ¬ DecAt ys := by
  rintro ⟨a, p, d, zs, h1, h2, h3, h4, h5, h6⟩
  exact hno a p d zs h1 h2 h3 h4 h5 (by rw [← h6, h, ← hp, List.drop_left])

theorem make64 (w : World) : (Instr.makeSlice 29 (.int .i64 64) (.int .i64 64)).run Try.prog w = .ok (.slice (some ⟨w.heap.size, 0, none⟩) 64 64) (w.alloc (.cells (List.replicate 64 (Value.int .u8 0)).toArray 5)) := by kernel_rfl

/-- Two blocks alone may turn. -/
structure Fr2 (a b : Nat) (w w' : World) : Prop where
  os : w'.os = w.os
  tape : w'.tape = w.tape
  output : w'.output = w.output
  size : w.heap.size ≤ w'.heap.size
  block : ∀ k, k < w.heap.size → k ≠ a → k ≠ b → w'.heap[k]? = w.heap[k]?
theorem Fr2.refl (a b : Nat) (w : World) : Fr2 a b w w := ⟨rfl, rfl, rfl, Nat.le_refl _, fun _ _ _ _ => rfl⟩
theorem Fr2.frm {a b g : Nat} {w w1 w2 : World} (h : Fr2 a b w w1) (hf : Frm w1 w2 g) (hg : g = a ∨ g = b ∨ w.heap.size ≤ g) : Fr2 a b w w2 :=
  ⟨hf.os.trans h.os, hf.tape.trans h.tape, hf.output.trans h.output, Nat.le_trans h.size hf.size, fun k hk h1 h2 => (hf.block k (by have := h.size; omega) (fun e => by
    injection e with e
    rcases hg with hg | hg | hg <;> omega)).trans (h.block k hk h1 h2)⟩
theorem Fr2.alloc {a b : Nat} {w w1 : World} (h : Fr2 a b w w1) (o : Obj) : Fr2 a b w (w1.alloc o) := h.frm ((Frm.refl w1 w1.heap.size).alloc o) (.inr (.inr h.size))
theorem Fr2.below {a b base : Nat} {w w1 : World} (h : Fr2 a b w w1) (ha : base ≤ a) (hb : base ≤ b) (hw : base ≤ w.heap.size) : Below base w w1 :=
  ⟨h.os, h.tape, h.output, h.size, fun k hk => h.block k (by omega) (by omega) (by omega)⟩

def Dec1Post (rb lb B : Nat) (ys : List UInt8) (w : World) (e : Ending) (w' : World) : Prop :=
  (∃ (a p : Inf) (d : Int) (zs : List UInt8), a.wf ∧ a.fine ∧ p.wf ∧ p.fine ∧ (0 ≤ d ∧ d ≤ 65535) ∧ ys = encL a p d ++ zs ∧ e = .returned (.tuple #[]) ∧ RdAt w' rb B zs ∧ w'.heap[lb]? = some (.cells #[.int .i64 a.sp, .int .u8 a.m0, .int .u8 a.m1, .int .u8 a.m2, .int .u8 a.m3, .int .u8 a.m4, .int .u8 a.m5, .int .i64 a.key, .int .i64 a.pp, .int .i64 a.port, .int .i64 a.st, .int .i64 p.sp, .int .u8 p.m0, .int .u8 p.m1, .int .u8 p.m2, .int .u8 p.m3, .int .u8 p.m4, .int .u8 p.m5, .int .i64 p.key, .int .i64 p.pp, .int .i64 p.port, .int .i64 p.st, .int .i64 d] 27 (0, 0)) ∧ Fr2 rb lb w w') ∨
  (¬ DecAt ys ∧ e = .panicked [{ v := .iface 91 (.agg #[]), recovered := false }] ∧ Fr2 rb lb w w')

set_option maxRecDepth 100000 in
set_option maxHeartbeats 16000000 in
theorem dec1_any (rb lb B : Nat) (ys : List UInt8) (w : World) (hr : RdAt w rb B ys) (hl : w.heap[lb]? = some (.cells #[.int .i64 0, .int .u8 0, .int .u8 0, .int .u8 0, .int .u8 0, .int .u8 0, .int .u8 0, .int .i64 0, .int .i64 0, .int .i64 0, .int .i64 0, .int .i64 0, .int .u8 0, .int .u8 0, .int .u8 0, .int .u8 0, .int .u8 0, .int .u8 0, .int .i64 0, .int .i64 0, .int .i64 0, .int .i64 0, .int .i64 0] 27 (0, 0))) (hne : lb ≠ rb) (hBl : B ≤ lb) :
    Calls Try.prog 49 #[.pointer (some ⟨rb, 0, none⟩), .pointer (some ⟨lb, 0, none⟩)] w (Dec1Post rb lb B ys w) := by
  have hrl := hr.lt
  have hBr := hr.1
  have hll : lb < w.heap.size := (Array.getElem?_eq_some_iff.1 hl).1
  have HR1 := hide (hr.below ((Below.refl _ w).alloc (Nat.le_refl _) (.cells #[.int .u8 1, .int .u8 1] 5)))
  have HL1 := hide (show (w.alloc (.cells #[.int .u8 1, .int .u8 1] 5)).heap[lb]? = _ from (Below.heap_alloc w _ _ hll).trans hl)
  have HW1 := hide (heap_alloc_new w (.cells #[.int .u8 1, .int .u8 1] 5))
  have HB1 := hide ((Fr2.refl rb lb w).alloc (.cells #[.int .u8 1, .int .u8 1] 5))
  clear hr hl
  go_enter Try.func49, Try.ntmps49
  go_wp2_with fail
  refine (must_any rb B w.heap.size 2 [1, 1] ys _ HR1.out (fun i hi => by
    rcases i with _ | _ | i
    · exact cell_of_row _ _ 0 _ 5 (0, 0) HW1.out
    · exact cell_of_row _ _ 1 _ 5 (0, 0) HW1.out
    · simp at hi; omega) (by omega) (by simp)).mono ?_
  rintro e u2 (⟨y1, hy1, rfl, hd2, hf2⟩ | ⟨hno, rfl, hf2⟩)
  rotate_left
  · go_wp2_with fail
    exact ⟨rfl, .inr ⟨dec_no (pre := []) rfl rfl (fun a p d zs _ _ _ _ _ h => hno ⟨_, h⟩), rfl, HB1.out.frm hf2 (.inl rfl)⟩⟩
  have hz2 := hf2.size
  simp at hz2
  have HD2 := hide hd2; have HL2 := hide (hf2.keep HL1.out hne); have HB2 := hide (HB1.out.frm hf2 (.inl rfl))
  have HY2 := hide hy1
  clear hd2 hf2 hy1 HR1 HL1 HB1 HW1
  go_wp2_with fail
  refine (infoRead_any 1 1 rfl rb B y1 u2 HD2.out).mono ?_
  rintro e u3 (⟨a, y2, haw, haf, hy2, rfl, hd3, hf3⟩ | ⟨hno, rfl, hf3⟩)
  rotate_left
  · go_wp2_with fail
    exact ⟨rfl, .inr ⟨dec_no (pre := [1, 1]) HY2.out rfl (fun a p d zs h1 h2 _ _ _ h => hno ⟨a, (encL a p d ++ zs).drop 22, h1, h2, h⟩), rfl, HB2.out.frm hf3 (.inl rfl)⟩⟩
  have hz3 := hf3.size
  have HD3 := hide hd3; have HL3 := hide (hf3.keep HL2.out hne); have HB3 := hide (HB2.out.frm hf3 (.inl rfl))
  have HY3 := hide (show ys = ([1, 1] ++ ([1, 20] ++ a.bytes)) ++ y2 by rw [HY2.out, hy2]; simp only [List.append_assoc])
  have HAW := hide haw; have HAF := hide haf
  clear hd3 hf3 HD2 HL2 HB2 HY2 hy2 haw haf
  go_wp2_with fail
  refine (infoRead_any 2 2 rfl rb B y2 u3 HD3.out).mono ?_
  rintro e u4 (⟨p, y3, hpw, hpf, hy3, rfl, hd4, hf4⟩ | ⟨hno, rfl, hf4⟩)
  rotate_left
  · go_wp2_with fail
    exact ⟨rfl, .inr ⟨dec_no HY3.out rfl (fun a p d zs _ _ h1 h2 _ h => hno ⟨p, (encL a p d ++ zs).drop 42, h1, h2, h⟩), rfl, HB3.out.frm hf4 (.inl rfl)⟩⟩
  have hz4 := hf4.size
  have HD4 := hide hd4; have HL4 := hide (hf4.keep HL3.out hne); have HB4 := hide (HB3.out.frm hf4 (.inl rfl))
  have HY4 := hide (show ys = ([1, 1] ++ ([1, 20] ++ a.bytes) ++ ([2, 20] ++ p.bytes)) ++ y3 by rw [HY3.out, hy3]; simp only [List.append_assoc])
  have HPW := hide hpw; have HPF := hide hpf
  clear hd4 hf4 HD3 HL3 HB3 HY3 hy3 hpw hpf
  go_wp2_with (first
    | (refine wpList_store_at rfl rfl lb 0 #[.int .i64 a.sp, .int .u8 a.m0, .int .u8 a.m1, .int .u8 a.m2, .int .u8 a.m3, .int .u8 a.m4, .int .u8 a.m5, .int .i64 a.key, .int .i64 a.pp, .int .i64 a.port, .int .i64 a.st] rfl rfl 27 HL4.out (by kernel_rfl) (by simp) (inf_ones a) #[.int .i64 a.sp, .int .u8 a.m0, .int .u8 a.m1, .int .u8 a.m2, .int .u8 a.m3, .int .u8 a.m4, .int .u8 a.m5, .int .i64 a.key, .int .i64 a.pp, .int .i64 a.port, .int .i64 a.st, .int .i64 0, .int .u8 0, .int .u8 0, .int .u8 0, .int .u8 0, .int .u8 0, .int .u8 0, .int .i64 0, .int .i64 0, .int .i64 0, .int .i64 0, .int .i64 0] rfl ?_; intro u5 hf5 hl5; have HF5 := hide hf5; have HL5 := hide hl5; clear hf5 hl5)
    | (refine wpList_store_at rfl rfl lb 11 #[.int .i64 p.sp, .int .u8 p.m0, .int .u8 p.m1, .int .u8 p.m2, .int .u8 p.m3, .int .u8 p.m4, .int .u8 p.m5, .int .i64 p.key, .int .i64 p.pp, .int .i64 p.port, .int .i64 p.st] rfl rfl 27 HL5.out (by kernel_rfl) (by simp) (inf_ones p) #[.int .i64 a.sp, .int .u8 a.m0, .int .u8 a.m1, .int .u8 a.m2, .int .u8 a.m3, .int .u8 a.m4, .int .u8 a.m5, .int .i64 a.key, .int .i64 a.pp, .int .i64 a.port, .int .i64 a.st, .int .i64 p.sp, .int .u8 p.m0, .int .u8 p.m1, .int .u8 p.m2, .int .u8 p.m3, .int .u8 p.m4, .int .u8 p.m5, .int .i64 p.key, .int .i64 p.pp, .int .i64 p.port, .int .i64 p.st, .int .i64 0] rfl ?_; intro u6 hf6 hl6; have HF6 := hide hf6; have HL6 := hide hl6; clear hf6 hl6))
  have hz5 := HF5.out.size; have hz6 := HF6.out.size
  have hd6 := (HD4.out.frm HF5.out (by omega) (by omega)).frm HF6.out (by omega) (by omega)
  have hB6 := (HB4.out.frm HF5.out (.inr (.inl rfl))).frm HF6.out (.inr (.inl rfl))
  have hll6 : lb < u6.heap.size := (Array.getElem?_eq_some_iff.1 HL6.out).1
  have HD7 := hide (hd6.below ((Below.refl _ u6).alloc (Nat.le_refl _) (.cells #[.int .u8 3, .int .u8 16] 5)))
  have HL7 := hide (show (u6.alloc (.cells #[.int .u8 3, .int .u8 16] 5)).heap[lb]? = _ from (Below.heap_alloc u6 _ _ hll6).trans HL6.out)
  have HW7 := hide (heap_alloc_new u6 (.cells #[.int .u8 3, .int .u8 16] 5))
  have HB7 := hide (hB6.alloc (.cells #[.int .u8 3, .int .u8 16] 5))
  clear hd6 hB6 HD4 HL4 HB4 HF5 HF6 HL5 HL6
  refine (must_any rb B u6.heap.size 2 [3, 16] y3 _ HD7.out (fun i hi => by
    rcases i with _ | _ | i
    · exact cell_of_row _ _ 0 _ 5 (0, 0) HW7.out
    · exact cell_of_row _ _ 1 _ 5 (0, 0) HW7.out
    · simp at hi; omega) (by omega) (by simp)).mono ?_
  rintro e u8 (⟨y4, hy4, rfl, hd8, hf8⟩ | ⟨hno, rfl, hf8⟩)
  rotate_left
  · go_wp2_with fail
    exact ⟨rfl, .inr ⟨dec_no HY4.out rfl (fun a p d zs _ _ _ _ _ h => hno ⟨_, h⟩), rfl, HB7.out.frm hf8 (.inl rfl)⟩⟩
  have hz8 := hf8.size
  simp at hz8
  have HD8 := hide hd8; have HL8 := hide (hf8.keep HL7.out hne); have HB8 := hide (HB7.out.frm hf8 (.inl rfl))
  have HY8 := hide (show ys = ([1, 1] ++ ([1, 20] ++ a.bytes) ++ ([2, 20] ++ p.bytes) ++ [3, 16]) ++ y4 by rw [HY4.out, hy4]; simp only [List.append_assoc])
  clear hd8 hf8 hy4 HD7 HL7 HB7 HW7 HY4
  go_wp2_with fail
  refine (number2_any rb B y4 u8 HD8.out).mono ?_
  rintro e u9 (⟨d, y5, hd, hy5, rfl, hd9, hf9⟩ | ⟨hno, rfl, hf9⟩)
  rotate_left
  · go_wp2_with fail
    exact ⟨rfl, .inr ⟨dec_no (k := 44) HY8.out rfl (fun a p d zs _ _ _ _ _ h => by
      have := congrArg List.length h
      rw [List.length_drop, List.length_append, encL_length] at this
      omega), rfl, HB8.out.frm hf9 (.inl rfl)⟩⟩
  have hz9 := hf9.size
  have HD9 := hide hd9; have HL9 := hide (hf9.keep HL8.out hne); have HB9 := hide (HB8.out.frm hf9 (.inl rfl))
  have HY9 := hide (show ys = ([1, 1] ++ ([1, 20] ++ a.bytes) ++ ([2, 20] ++ p.bytes) ++ [3, 16] ++ two d) ++ y5 by rw [HY8.out, hy5]; simp only [List.append_assoc])
  have Hd := hide hd
  clear hd9 hf9 hy5 HD8 HL8 HB8 HY8 hd
  have q22 : u9.cell? ⟨lb, 22, none⟩ = some (.int .i64 0) := cell_of_row u9 lb 22 _ 27 (0, 0) HL9.out
  have z22 : u9.frozen? ⟨lb, 22, none⟩ = false := frozen_of_row u9 lb 22 _ 27 HL9.out
  obtain ⟨u10, hu10⟩ : ∃ u, u = u9.setCell ⟨lb, 22, none⟩ (.int .i64 d) := ⟨_, rfl⟩
  have hf10 : Frm u9 u10 lb := by rw [hu10]; exact (Frm.refl u9 lb).put 22 _
  have HL10 := hide (show u10.heap[lb]? = some (.cells #[.int .i64 a.sp, .int .u8 a.m0, .int .u8 a.m1, .int .u8 a.m2, .int .u8 a.m3, .int .u8 a.m4, .int .u8 a.m5, .int .i64 a.key, .int .i64 a.pp, .int .i64 a.port, .int .i64 a.st, .int .i64 p.sp, .int .u8 p.m0, .int .u8 p.m1, .int .u8 p.m2, .int .u8 p.m3, .int .u8 p.m4, .int .u8 p.m5, .int .i64 p.key, .int .i64 p.pp, .int .i64 p.port, .int .i64 p.st, .int .i64 d] 27 (0, 0)) by rw [hu10, heap_setCell_same u9 lb 22 _ 27 _ HL9.out]; rfl)
  have hd10 := HD9.out.frm hf10 (by omega) (by omega); have hB10 := HB9.out.frm hf10 (.inr (.inl rfl))
  have hsz : u10.heap.size = u9.heap.size := by rw [hu10]; simp
  have HEq := hide hu10
  obtain ⟨Z64, hZ⟩ : ∃ z : Array Value, z = (List.replicate 64 (Value.int .u8 0)).toArray := ⟨_, rfl⟩
  have hmk : ∀ w, (Instr.makeSlice 29 (.int .i64 64) (.int .i64 64)).run Try.prog w = .ok (.slice (some ⟨w.heap.size, 0, none⟩) 64 64) (w.alloc (.cells Z64 5)) := by
    rw [hZ]; exact make64
  have hll10 : lb < u10.heap.size := by omega
  have HD11 := hide (hd10.below ((Below.refl _ u10).alloc (Nat.le_refl _) (.cells Z64 5)))
  have HL11 := hide (show (u10.alloc (.cells Z64 5)).heap[lb]? = _ from (Below.heap_alloc u10 _ _ hll10).trans HL10.out)
  have HW11 := hide (show (u10.alloc (.cells Z64 5)).heap[u9.heap.size]? = some (.cells Z64 5 (0, 0)) by rw [← hsz]; exact heap_alloc_new u10 _)
  have HB11 := hide (hB10.alloc (.cells Z64 5))
  have HZ := hide hZ
  clear hu10 hf10 hd10 hB10 hZ HL10 HD9 HL9 HB9
  go_wp2_with fail
  rw [← HEq.out]
  clear q22 z22 HEq hmk
  refine (must_any rb B u9.heap.size 64 (List.replicate 64 0) y5 _ HD11.out (fun i hi => by
    rw [List.length_replicate] at hi
    rw [List.getElem_replicate]
    refine (cell_of_row _ _ i _ 5 (0, 0) HW11.out).trans ?_
    rw [HZ.out, List.getElem?_toArray, List.getElem?_replicate_of_lt hi]
    rfl) (by omega) (by simp)).mono ?_
  rintro e u12 (⟨y6, hy6, rfl, hd12, hf12⟩ | ⟨hno, rfl, hf12⟩)
  rotate_left
  · go_wp2_with fail
    exact ⟨rfl, .inr ⟨dec_no HY9.out rfl (fun a p d zs _ _ _ _ _ h => hno ⟨zs, h⟩), rfl, HB11.out.frm hf12 (.inl rfl)⟩⟩
  go_wp2_with fail
  go_end0
  refine .inl ⟨a, p, d, y6, HAW.out, HAF.out, HPW.out, HPF.out, Hd.out, ?_, rfl, hd12, hf12.keep HL11.out hne, HB11.out.frm hf12 (.inl rfl)⟩
  rw [HY9.out, hy6]
  simp only [encL, List.append_assoc]
  rfl
end Go.Proofs.Ytooieocfgifpgaa

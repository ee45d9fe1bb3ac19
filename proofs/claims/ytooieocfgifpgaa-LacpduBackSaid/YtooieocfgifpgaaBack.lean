/-
  Proved: LacpduBack: one's bytes are decoded as it; any bytes that are decoded are those of it; the law answers true.
  No condition.
-/
import Derived.Test.YtooieocfgifpgaaLpS
namespace Go.Proofs.Ytooieocfgifpgaa
open Go.RowKit Go.ChangeShapes Go.WideShapes Go.ChangeAt
set_option linter.unusedVariables false

/-- A slice of bytes that came in. -/
theorem open_src {H : Type} {enc : TypeId × Value → H} {w : World} {r : Reach} {base : Nat} {v : Value} {d : DataW H} {ps : List MemPlace} (hv : Value.okWide Try.prog w r base 29 v)
    (hT : DataW.Trod enc Try.prog w 0 (fun _ => true) true 29 v d ps) : ∃ A cap ys, v = .slice A ys.length cap ∧ SrcAt w w.heap.size A cap ys := by
  have hu := Try.underlying29
  obtain ⟨fuel, hT⟩ := hT
  have hmax : IntKind.i64.max = 9223372036854775807 := rfl
  obtain ⟨A, n, cap, rfl⟩ := okWide_slice hu hv
  simp only [Value.okWide, hu, Cell.okWide] at hv
  rcases Go.Deep.open_slice1 hu cellsOf5 (show DataW.trod enc Try.prog w 0 (fun _ => true) true fuel 29 [.slice A n cap] = some (d, ps) from hT) with ⟨h0, _⟩ | ⟨a, len, cap', m, q, V, D, Pl, h0, _, hl, hm, hmm, _, hel⟩
  · injection h0 with h0 _
    injection h0 with h1 h2 h3
    subst h1 h2 h3
    exact ⟨none, 0, [], rfl, by simp, by omega, .inl rfl⟩
  · injection h0 with h0 _
    injection h0 with h1 h2 h3
    subst h1 h2 h3
    simp only [Cell.ok, hu] at hv
    obtain ⟨_, hcap, _, hspot, _⟩ := hv
    have hmx : maxLen = 9223372036854775807 := rfl
    obtain ⟨b, o, sp⟩ := a
    simp at hspot
    subst hspot
    simp at hmm
    obtain ⟨K, hK⟩ := Go.Deep.choose_lt (α := Int) (n := n) (p := fun i k => w.cell? ⟨b, o + i, none⟩ = some (.int .u8 k) ∧ 0 ≤ k ∧ k < 256) (fun i hi => by
      obtain ⟨h1, h2⟩ := hel i (by omega)
      obtain ⟨k, hk, _, hw⟩ := DataW.trod_int Try.underlying5 h2
      injection hk with hk _
      rw [hk] at h1
      exact ⟨k, cellAt_of_add _ h1, wf_u8 hw⟩)
    have hlen : ((List.range n).map fun i => UInt8.ofNat (K i).toNat).length = n := by simp
    refine ⟨some ⟨b, o, none⟩, cap, (List.range n).map fun i => UInt8.ofNat (K i).toNat, by rw [hlen], by rw [hlen]; exact hl, by omega, ?_⟩
    by_cases h0 : n = 0
    · subst h0; exact .inl rfl
    · refine .inr ⟨b, o, rfl, cell_lt (hK 0 (by omega)).1, fun i hi => ?_⟩
      have hi' : i < n := by simpa using hi
      rw [(hK i hi').1]
      have hk := (hK i hi').2
      simp
      omega

theorem SrcAt.str {w : World} {B : Nat} {A : Option Addr} {cap : Nat} {ys : List UInt8} (h : SrcAt w B A cap ys) : (convert 29 9 (.slice A ys.length cap)).run Try.prog w = .ok (.string ⟨ys.toArray⟩) w := by
  obtain ⟨h1, h2, h3⟩ := h
  rcases h3 with rfl | ⟨b, o, rfl, hb, hc⟩
  · cases A with
    | none => exact Go.Lib.run_convert_nil_bytes w 29 9 5 cap Try.underlying29 Try.underlying5 Try.underlying9
    | some a => exact run_convert_bytes_back w 29 9 5 a cap [] Try.underlying29 Try.underlying5 Try.underlying9 (fun j hj => by simp at hj)
  · exact run_convert_bytes_back w 29 9 5 _ cap ys Try.underlying29 Try.underlying5 Try.underlying9 (fun j hj => by
      have e : ((⟨b, o, none⟩ : Addr).add j) = ⟨b, o + j, none⟩ := by
        simp only [Addr.add]
        split
        · next h0 => rw [h0]; rfl
        · rfl
      rw [e]; exact hc j hj)
theorem OwnB.src {w : World} {base g k c : Nat} {ys : List UInt8} (h : OwnB w base g k c ys) : SrcAt w w.heap.size (some ⟨g, 0, none⟩) c ys := by
  have hl := h.len
  have hc : k ≤ c ∧ c ≤ maxLen := by
    rcases h.2 with ⟨h0, -⟩ | ⟨g', c', cur, h0, -, -, h1, h2, -⟩
    · simp at h0
    · injection h0 with _ _ h0
      subst h0
      exact ⟨h1, h2⟩
  have hmx : maxLen = 9223372036854775807 := rfl
  exact ⟨by omega, by omega, .inr ⟨g, 0, rfl, h.lt.2, fun i hi => by rw [Nat.zero_add]; exact h.cell i hi⟩⟩
theorem SrcAt.mono {w : World} {B B' : Nat} {A : Option Addr} {cap : Nat} {ys : List UInt8} (h : SrcAt w B A cap ys) (hB : B ≤ B') : SrcAt w B' A cap ys := by
  obtain ⟨h1, h2, h3⟩ := h
  refine ⟨h1, h2, ?_⟩
  rcases h3 with h3 | ⟨b, o, rfl, hb, hc⟩
  · exact .inl h3
  · exact .inr ⟨b, o, rfl, by omega, hc⟩
theorem okL_true {a p : Inf} {d : Int} (ha : a.fine) (hp : p.fine) (hd : 0 ≤ d ∧ d ≤ 65535) : okL a p d = true := by
  simp only [okL, Bool.and_eq_true]
  exact ⟨⟨(Inf.ok_iff a).2 ha, (Inf.ok_iff p).2 hp⟩, (inW_iff _ _).2 hd⟩
theorem dec_enc {a p : Inf} {d : Int} (ha : a.wf) (hp : p.wf) (hok : okL a p d = true) {w w' : World} {e : Ending} (h : DecPost (encL a p d) w e w') : e = .returned (.tuple #[.agg #[.int .i64 a.sp, .int .u8 a.m0, .int .u8 a.m1, .int .u8 a.m2, .int .u8 a.m3, .int .u8 a.m4, .int .u8 a.m5, .int .i64 a.key, .int .i64 a.pp, .int .i64 a.port, .int .i64 a.st, .int .i64 p.sp, .int .u8 p.m0, .int .u8 p.m1, .int .u8 p.m2, .int .u8 p.m3, .int .u8 p.m4, .int .u8 p.m5, .int .i64 p.key, .int .i64 p.pp, .int .i64 p.port, .int .i64 p.st, .int .i64 d], .int .i64 0]) ∧ Below w.heap.size w w' := by
  obtain ⟨fa, fp, fd⟩ := okL_fine hok
  rcases h with ⟨b, q, f, k1, k2, k3, k4, k5, k6, rfl, hb⟩ | ⟨hno, -⟩
  · obtain ⟨rfl, rfl, rfl⟩ := encL_inj ha hp k1 k3 fa fp k2 k4 fd k5 k6
    exact ⟨rfl, hb⟩
  · exact absurd ⟨a, p, d, ha, fa, hp, fp, fd, rfl⟩ hno
theorem wpList_eq27g {ops : Array Oper} {rest : List Oper} {o : Oper} {a : Act} {w : World} {Q : Exit → Act → World → Prop} {s t : Operand} (ho : o.op = .binOp .eql 27 s t 27) (hgd : Region.wanted o (yielded ops a.tmps) = true) (x y : Inf) (d : Int) (x' y' : Inf) (d' : Int) (hx : a.eval s = .agg #[.int .i64 x.sp, .int .u8 x.m0, .int .u8 x.m1, .int .u8 x.m2, .int .u8 x.m3, .int .u8 x.m4, .int .u8 x.m5, .int .i64 x.key, .int .i64 x.pp, .int .i64 x.port, .int .i64 x.st, .int .i64 y.sp, .int .u8 y.m0, .int .u8 y.m1, .int .u8 y.m2, .int .u8 y.m3, .int .u8 y.m4, .int .u8 y.m5, .int .i64 y.key, .int .i64 y.pp, .int .i64 y.port, .int .i64 y.st, .int .i64 d]) (hy : a.eval t = .agg #[.int .i64 x'.sp, .int .u8 x'.m0, .int .u8 x'.m1, .int .u8 x'.m2, .int .u8 x'.m3, .int .u8 x'.m4, .int .u8 x'.m5, .int .i64 x'.key, .int .i64 x'.pp, .int .i64 x'.port, .int .i64 x'.st, .int .i64 y'.sp, .int .u8 y'.m0, .int .u8 y'.m1, .int .u8 y'.m2, .int .u8 y'.m3, .int .u8 y'.m4, .int .u8 y'.m5, .int .i64 y'.key, .int .i64 y'.pp, .int .i64 y'.port, .int .i64 y'.st, .int .i64 d']) {E : Bool} (hE : eqL x y d x' y' d' = E)
    (hk : wpList Try.prog ops Q rest (a.put o.dst (.bool E)) w) : wpList Try.prog ops Q (o :: rest) a w :=
  wpList_run hgd (.bool E) (by subst hE; exact run_eq_op ho hx hy guard27 (run_eqL w 9996 x y d x' y' d')) hk
theorem wpList_ne27g {ops : Array Oper} {rest : List Oper} {o : Oper} {a : Act} {w : World} {Q : Exit → Act → World → Prop} {s t : Operand} (ho : o.op = .binOp .neq 27 s t 27) (hgd : Region.wanted o (yielded ops a.tmps) = true) (x y : Inf) (d : Int) (hx : a.eval s = .agg #[.int .i64 x.sp, .int .u8 x.m0, .int .u8 x.m1, .int .u8 x.m2, .int .u8 x.m3, .int .u8 x.m4, .int .u8 x.m5, .int .i64 x.key, .int .i64 x.pp, .int .i64 x.port, .int .i64 x.st, .int .i64 y.sp, .int .u8 y.m0, .int .u8 y.m1, .int .u8 y.m2, .int .u8 y.m3, .int .u8 y.m4, .int .u8 y.m5, .int .i64 y.key, .int .i64 y.pp, .int .i64 y.port, .int .i64 y.st, .int .i64 d]) (hy : a.eval t = .agg #[.int .i64 x.sp, .int .u8 x.m0, .int .u8 x.m1, .int .u8 x.m2, .int .u8 x.m3, .int .u8 x.m4, .int .u8 x.m5, .int .i64 x.key, .int .i64 x.pp, .int .i64 x.port, .int .i64 x.st, .int .i64 y.sp, .int .u8 y.m0, .int .u8 y.m1, .int .u8 y.m2, .int .u8 y.m3, .int .u8 y.m4, .int .u8 y.m5, .int .i64 y.key, .int .i64 y.pp, .int .i64 y.port, .int .i64 y.st, .int .i64 d])
    (hk : wpList Try.prog ops Q rest (a.put o.dst (.bool false)) w) : wpList Try.prog ops Q (o :: rest) a w :=
  wpList_run hgd (.bool false) (by have := run_ne_op ho hx hy guard27 (run_eqL w 9996 x y d x y d); rwa [eqL_self] at this) hk
theorem wpList_load_wt {P : Program} {ops : Array Oper} {rest : List Oper} {o : Oper} {a : Act} {w : World} {Q : Exit → Act → World → Prop} {ty : TypeId} {x : Operand} (ho : o.op = .load ty x) (hgd : Region.wanted o (yielded ops a.tmps) = true)
    (g off : Nat) (hx : a.eval x = .pointer (some ⟨g, off, none⟩)) (t : TypeId) {cs : Array Value} (vs : Array Value) (fr : Nat × Nat) (d : TypeDesc) (hg : w.heap[g]? = some (.cells cs t fr))
    (hu : P.underlying ty = some d) (hd : (match d with | .struct _ | .array _ _ => true | _ => false) = true) (hi : (P.info? ty).map (·.size) = some vs.size) (hvs : (cs.toList.drop off).take vs.size = vs.toList)
    (h : wpList P ops Q rest (a.put o.dst (.agg vs)) w) : wpList P ops Q (o :: rest) a w :=
  wpList_run hgd (.agg vs) (run_load_part ty x ho g off hx t cs vs fr d hg hu hd hi hvs) h

theorem mac_zero (u : World) : (Op.equalIn 9998 23 (.agg #[.int .u8 0, .int .u8 0, .int .u8 0, .int .u8 0, .int .u8 0, .int .u8 0]) (.agg #[.int .u8 0, .int .u8 0, .int .u8 0, .int .u8 0, .int .u8 0, .int .u8 0])).run Try.prog u = .ok true u := by
  obtain ⟨i5, hi5, _⟩ := isz5
  exact run_eq6 (w := u) (d := 9996) Try.underlying23 Try.underlying5 hi5 cellsOf5 0 0 0 0 0 0 0 0 0 0 0 0

set_option maxRecDepth 100000 in
set_option maxHeartbeats 8000000 in
theorem lacpduBack_any (a p : Inf) (d : Int) (A : Option Addr) (cap : Nat) (ys : List UInt8) (w : World) (ha : a.wf) (hp : p.wf) (hd : -9223372036854775808 ≤ d ∧ d ≤ 9223372036854775807) (hl : SrcAt w w.heap.size A cap ys) :
    Calls Try.prog 8 #[.agg #[.int .i64 a.sp, .int .u8 a.m0, .int .u8 a.m1, .int .u8 a.m2, .int .u8 a.m3, .int .u8 a.m4, .int .u8 a.m5, .int .i64 a.key, .int .i64 a.pp, .int .i64 a.port, .int .i64 a.st, .int .i64 p.sp, .int .u8 p.m0, .int .u8 p.m1, .int .u8 p.m2, .int .u8 p.m3, .int .u8 p.m4, .int .u8 p.m5, .int .i64 p.key, .int .i64 p.pp, .int .i64 p.port, .int .i64 p.st, .int .i64 d], .slice A ys.length cap] w fun e w' => e = .returned (.bool true) ∧ Below w.heap.size w w' := by
  have HB0 := hide (heap_alloc_new w (.cells #[.int .i64 a.sp, .int .u8 a.m0, .int .u8 a.m1, .int .u8 a.m2, .int .u8 a.m3, .int .u8 a.m4, .int .u8 a.m5, .int .i64 a.key, .int .i64 a.pp, .int .i64 a.port, .int .i64 a.st, .int .i64 p.sp, .int .u8 p.m0, .int .u8 p.m1, .int .u8 p.m2, .int .u8 p.m3, .int .u8 p.m4, .int .u8 p.m5, .int .i64 p.key, .int .i64 p.pp, .int .i64 p.port, .int .i64 p.st, .int .i64 d] 27))
  have HS := hide hl
  have HA := hide ha; have HP := hide hp
  clear ha hp hd hl
  obtain ⟨n, hn⟩ : ∃ n, n = ys.length := ⟨_, rfl⟩
  have HN := hide hn
  rw [← hn]
  clear hn
  go_enter Try.func8, Try.ntmps8
  go_wp2_with fail
  refine (awake_any _).mono ?_
  rintro e w1 ⟨rfl, hb1⟩
  have HW1 := hide (((Below.refl w.heap.size w).alloc (Nat.le_refl _) (.cells #[.int .i64 a.sp, .int .u8 a.m0, .int .u8 a.m1, .int .u8 a.m2, .int .u8 a.m3, .int .u8 a.m4, .int .u8 a.m5, .int .i64 a.key, .int .i64 a.pp, .int .i64 a.port, .int .i64 a.st, .int .i64 p.sp, .int .u8 p.m0, .int .u8 p.m1, .int .u8 p.m2, .int .u8 p.m3, .int .u8 p.m4, .int .u8 p.m5, .int .i64 p.key, .int .i64 p.pp, .int .i64 p.port, .int .i64 p.st, .int .i64 d] 27)).trans (hb1.mono (by simp)))
  have HK1 := hide ((hb1.block w.heap.size (by simp)).trans HB0.out)
  have hs1 : w.heap.size < w1.heap.size := by have := hb1.size; simp at this; omega
  have HS1 := hide (HS.out.below HW1.out (Nat.le_refl _))
  clear hb1 HB0 HS
  by_cases hbig : 1000 < n
  · have hbi : (1000 : Int) < (n : Int) := by omega
    go_wp2_with fail
    go_ret
    exact ⟨rfl, HW1.out⟩
  have hbi : ¬ (1000 : Int) < (n : Int) := by omega
  go_wp2_with (refine wpList_load_part rfl 27 (.tmp 2) rfl w.heap.size 0 rfl 27 _ #[.int .i64 a.sp, .int .u8 a.m0, .int .u8 a.m1, .int .u8 a.m2, .int .u8 a.m3, .int .u8 a.m4, .int .u8 a.m5, .int .i64 a.key, .int .i64 a.pp, .int .i64 a.port, .int .i64 a.st, .int .i64 p.sp, .int .u8 p.m0, .int .u8 p.m1, .int .u8 p.m2, .int .u8 p.m3, .int .u8 p.m4, .int .u8 p.m5, .int .i64 p.key, .int .i64 p.pp, .int .i64 p.port, .int .i64 p.st, .int .i64 d] (0, 0) _ HK1.out Try.underlying27 rfl (by kernel_rfl) rfl ?_)
  refine (encode_any a p d w1 HA.out HP.out).mono ?_
  rintro e w2 (⟨hok, g, c, rfl, hown, hb2⟩ | ⟨hok, rfl, hb2⟩)
  · have HW2 := hide (HW1.out.trans (hb2.mono HW1.out.size))
    have HK2 := hide ((hb2.block w.heap.size hs1).trans HK1.out)
    have HS2 := hide (HS1.out.below hb2 (by omega))
    have hs2 : w.heap.size < w2.heap.size := by have := hb2.size; omega
    have HDec := hide (show Calls Try.prog 23 #[.slice (some ⟨g, 0, none⟩) 110 c] w2 fun e w' => e = .returned (.tuple #[.agg #[.int .i64 a.sp, .int .u8 a.m0, .int .u8 a.m1, .int .u8 a.m2, .int .u8 a.m3, .int .u8 a.m4, .int .u8 a.m5, .int .i64 a.key, .int .i64 a.pp, .int .i64 a.port, .int .i64 a.st, .int .i64 p.sp, .int .u8 p.m0, .int .u8 p.m1, .int .u8 p.m2, .int .u8 p.m3, .int .u8 p.m4, .int .u8 p.m5, .int .i64 p.key, .int .i64 p.pp, .int .i64 p.port, .int .i64 p.st, .int .i64 d], .int .i64 0]) ∧ Below w2.heap.size w2 w' from by
      have := decode_any (some ⟨g, 0, none⟩) c (encL a p d) w2 hown.src
      rw [encL_length] at this
      exact this.mono fun e w' h => dec_enc HA.out HP.out hok h)
    clear hown hb2 hok HW1 HK1 HS1
    go_wp2_with fail
    refine HDec.out.mono ?_
    rintro e w3 ⟨rfl, hb3⟩
    have HW3 := hide (HW2.out.trans (hb3.mono HW2.out.size))
    have HK3 := hide ((hb3.block w.heap.size hs2).trans HK2.out)
    have HS3 := hide (HS2.out.below hb3 (by omega))
    have hs3 : w.heap.size < w3.heap.size := by have := hb3.size; omega
    have HZ3 := hide (heap_alloc_new w3 (.cells #[.int .i64 0, .int .u8 0, .int .u8 0, .int .u8 0, .int .u8 0, .int .u8 0, .int .u8 0, .int .i64 0, .int .i64 0, .int .i64 0, .int .i64 0, .int .i64 0, .int .u8 0, .int .u8 0, .int .u8 0, .int .u8 0, .int .u8 0, .int .u8 0, .int .i64 0, .int .i64 0, .int .i64 0, .int .i64 0, .int .i64 0] 27))
    have HK3' := hide (show (w3.alloc (.cells #[.int .i64 0, .int .u8 0, .int .u8 0, .int .u8 0, .int .u8 0, .int .u8 0, .int .u8 0, .int .i64 0, .int .i64 0, .int .i64 0, .int .i64 0, .int .i64 0, .int .u8 0, .int .u8 0, .int .u8 0, .int .u8 0, .int .u8 0, .int .u8 0, .int .i64 0, .int .i64 0, .int .i64 0, .int .i64 0, .int .i64 0] 27)).heap[w.heap.size]? = _ from (Below.heap_alloc w3 _ _ hs3).trans HK3.out)
    have HS3' := hide (HS3.out.below ((Below.refl w3.heap.size w3).alloc (Nat.le_refl _) (.cells #[.int .i64 0, .int .u8 0, .int .u8 0, .int .u8 0, .int .u8 0, .int .u8 0, .int .u8 0, .int .i64 0, .int .i64 0, .int .i64 0, .int .i64 0, .int .i64 0, .int .u8 0, .int .u8 0, .int .u8 0, .int .u8 0, .int .u8 0, .int .u8 0, .int .i64 0, .int .i64 0, .int .i64 0, .int .i64 0, .int .i64 0] 27)) (by omega))
    clear hb3 HDec HW2 HK2 HS2
    go_wp2_with (first
      | (refine wpList_store_at rfl rfl w3.heap.size 0 #[.int .i64 a.sp, .int .u8 a.m0, .int .u8 a.m1, .int .u8 a.m2, .int .u8 a.m3, .int .u8 a.m4, .int .u8 a.m5, .int .i64 a.key, .int .i64 a.pp, .int .i64 a.port, .int .i64 a.st, .int .i64 p.sp, .int .u8 p.m0, .int .u8 p.m1, .int .u8 p.m2, .int .u8 p.m3, .int .u8 p.m4, .int .u8 p.m5, .int .i64 p.key, .int .i64 p.pp, .int .i64 p.port, .int .i64 p.st, .int .i64 d] rfl rfl 27 HZ3.out (by kernel_rfl) (by simp) (lacp_ones a p d) #[.int .i64 a.sp, .int .u8 a.m0, .int .u8 a.m1, .int .u8 a.m2, .int .u8 a.m3, .int .u8 a.m4, .int .u8 a.m5, .int .i64 a.key, .int .i64 a.pp, .int .i64 a.port, .int .i64 a.st, .int .i64 p.sp, .int .u8 p.m0, .int .u8 p.m1, .int .u8 p.m2, .int .u8 p.m3, .int .u8 p.m4, .int .u8 p.m5, .int .i64 p.key, .int .i64 p.pp, .int .i64 p.port, .int .i64 p.st, .int .i64 d] rfl ?_; intro w4 hf4 hb4; have HQ4 := hide hb4; have HF4 := hide hf4; have HK4 := hide (hf4.keep HK3'.out (by omega)); have HS4 := hide (HS3'.out.frm hf4 (by omega)); have HW4 := hide ((HW3.out.alloc HW3.out.size (.cells #[.int .i64 0, .int .u8 0, .int .u8 0, .int .u8 0, .int .u8 0, .int .u8 0, .int .u8 0, .int .i64 0, .int .i64 0, .int .i64 0, .int .i64 0, .int .i64 0, .int .u8 0, .int .u8 0, .int .u8 0, .int .u8 0, .int .u8 0, .int .u8 0, .int .i64 0, .int .i64 0, .int .i64 0, .int .i64 0, .int .i64 0] 27)).trans (hf4.below (by omega) (by have := HW3.out.size; simp; omega))); clear hf4 hb4)
      | (refine wpList_load_wt (ty := 27) (x := .tmp 8) rfl rfl w3.heap.size 0 rfl 27 #[.int .i64 a.sp, .int .u8 a.m0, .int .u8 a.m1, .int .u8 a.m2, .int .u8 a.m3, .int .u8 a.m4, .int .u8 a.m5, .int .i64 a.key, .int .i64 a.pp, .int .i64 a.port, .int .i64 a.st, .int .i64 p.sp, .int .u8 p.m0, .int .u8 p.m1, .int .u8 p.m2, .int .u8 p.m3, .int .u8 p.m4, .int .u8 p.m5, .int .i64 p.key, .int .i64 p.pp, .int .i64 p.port, .int .i64 p.st, .int .i64 d] (0, 0) _ HQ4.out Try.underlying27 rfl (by kernel_rfl) rfl ?_)
      | (refine wpList_load_wt (ty := 27) (x := .tmp 2) rfl rfl w.heap.size 0 rfl 27 #[.int .i64 a.sp, .int .u8 a.m0, .int .u8 a.m1, .int .u8 a.m2, .int .u8 a.m3, .int .u8 a.m4, .int .u8 a.m5, .int .i64 a.key, .int .i64 a.pp, .int .i64 a.port, .int .i64 a.st, .int .i64 p.sp, .int .u8 p.m0, .int .u8 p.m1, .int .u8 p.m2, .int .u8 p.m3, .int .u8 p.m4, .int .u8 p.m5, .int .i64 p.key, .int .i64 p.pp, .int .i64 p.port, .int .i64 p.st, .int .i64 d] (0, 0) _ HK4.out Try.underlying27 rfl (by kernel_rfl) rfl ?_)
      | (refine wpList_ne27g rfl rfl a p d rfl rfl ?_))
    have hs4 : w.heap.size < w4.heap.size := by have := HF4.out.size; simp at this; omega
    clear HF4 HQ4 HK4 HK3 HK3' HS3 HS3' HW3 HZ3
    refine (show Calls Try.prog 23 #[.slice A n cap] w4 (DecPost ys w4) from by have := decode_any A cap ys w4 (HS4.out.mono (by omega)); rwa [← HN.out] at this).mono ?_
    rintro e w5 (⟨b, q, f, k1, k2, k3, k4, k5, k6, rfl, hb5⟩ | ⟨hno, rfl, hb5⟩)
    · have HW5 := hide (HW4.out.trans (hb5.mono HW4.out.size))
      have HS5 := hide (HS4.out.below hb5 (by omega))
      have hs5 : w.heap.size < w5.heap.size := by have := hb5.size; omega
      have HZ5 := hide (heap_alloc_new w5 (.cells #[.int .i64 0, .int .u8 0, .int .u8 0, .int .u8 0, .int .u8 0, .int .u8 0, .int .u8 0, .int .i64 0, .int .i64 0, .int .i64 0, .int .i64 0, .int .i64 0, .int .u8 0, .int .u8 0, .int .u8 0, .int .u8 0, .int .u8 0, .int .u8 0, .int .i64 0, .int .i64 0, .int .i64 0, .int .i64 0, .int .i64 0] 27))
      have HS5' := hide (HS5.out.below ((Below.refl w5.heap.size w5).alloc (Nat.le_refl _) (.cells #[.int .i64 0, .int .u8 0, .int .u8 0, .int .u8 0, .int .u8 0, .int .u8 0, .int .u8 0, .int .i64 0, .int .i64 0, .int .i64 0, .int .i64 0, .int .i64 0, .int .u8 0, .int .u8 0, .int .u8 0, .int .u8 0, .int .u8 0, .int .u8 0, .int .i64 0, .int .i64 0, .int .i64 0, .int .i64 0, .int .i64 0] 27)) (by omega))
      have K1 := hide k1; have K3 := hide k3
      have HOk := hide (okL_true k2 k4 k5)
      have H6 := hide k6
      clear hb5 k1 k2 k3 k4 k5 k6
      go_wp2_with (first
        | (refine wpList_store_at rfl rfl w5.heap.size 0 #[.int .i64 b.sp, .int .u8 b.m0, .int .u8 b.m1, .int .u8 b.m2, .int .u8 b.m3, .int .u8 b.m4, .int .u8 b.m5, .int .i64 b.key, .int .i64 b.pp, .int .i64 b.port, .int .i64 b.st, .int .i64 q.sp, .int .u8 q.m0, .int .u8 q.m1, .int .u8 q.m2, .int .u8 q.m3, .int .u8 q.m4, .int .u8 q.m5, .int .i64 q.key, .int .i64 q.pp, .int .i64 q.port, .int .i64 q.st, .int .i64 f] rfl rfl 27 HZ5.out (by kernel_rfl) (by simp) (lacp_ones b q f) #[.int .i64 b.sp, .int .u8 b.m0, .int .u8 b.m1, .int .u8 b.m2, .int .u8 b.m3, .int .u8 b.m4, .int .u8 b.m5, .int .i64 b.key, .int .i64 b.pp, .int .i64 b.port, .int .i64 b.st, .int .i64 q.sp, .int .u8 q.m0, .int .u8 q.m1, .int .u8 q.m2, .int .u8 q.m3, .int .u8 q.m4, .int .u8 q.m5, .int .i64 q.key, .int .i64 q.pp, .int .i64 q.port, .int .i64 q.st, .int .i64 f] rfl ?_; intro w6 hf6 hb6; have HQ6 := hide hb6; have HF6 := hide hf6; have HS6 := hide (HS5'.out.frm hf6 (by omega)); have HW6 := hide ((HW5.out.alloc HW5.out.size (.cells #[.int .i64 0, .int .u8 0, .int .u8 0, .int .u8 0, .int .u8 0, .int .u8 0, .int .u8 0, .int .i64 0, .int .i64 0, .int .i64 0, .int .i64 0, .int .i64 0, .int .u8 0, .int .u8 0, .int .u8 0, .int .u8 0, .int .u8 0, .int .u8 0, .int .i64 0, .int .i64 0, .int .i64 0, .int .i64 0, .int .i64 0] 27)).trans (hf6.below (by omega) (by have := HW5.out.size; simp; omega))); clear hf6 hb6)
        | (refine wpList_load_wt (ty := 27) (x := .tmp 10) rfl rfl w5.heap.size 0 rfl 27 #[.int .i64 b.sp, .int .u8 b.m0, .int .u8 b.m1, .int .u8 b.m2, .int .u8 b.m3, .int .u8 b.m4, .int .u8 b.m5, .int .i64 b.key, .int .i64 b.pp, .int .i64 b.port, .int .i64 b.st, .int .i64 q.sp, .int .u8 q.m0, .int .u8 q.m1, .int .u8 q.m2, .int .u8 q.m3, .int .u8 q.m4, .int .u8 q.m5, .int .i64 q.key, .int .i64 q.pp, .int .i64 q.port, .int .i64 q.st, .int .i64 f] (0, 0) _ HQ6.out Try.underlying27 rfl (by kernel_rfl) rfl ?_))
      have hs6 : w.heap.size < w6.heap.size := by have := HF6.out.size; simp at this; omega
      clear HF6 HQ6 HS5 HS5' HW5 HZ5
      refine (encode_any b q f w6 K1.out K3.out).mono ?_
      rintro e w7 (⟨hok7, g7, c7, rfl, hown7, hb7⟩ | ⟨hok7, rfl, hb7⟩)
      rotate_left
      · rw [HOk.out] at hok7
        exact absurd hok7 (by decide)
      have s1 : (convert 29 9 (.slice (some ⟨g7, 0, none⟩) 110 c7)).run Try.prog w7 = .ok (.string ⟨ys.toArray⟩) w7 := by rw [H6.out]; exact hown7.str (by decide)
      have s2 : (convert 29 9 (.slice A n cap)).run Try.prog w7 = .ok (.string ⟨ys.toArray⟩) w7 := by rw [HN.out]; exact (HS6.out.below hb7 (by omega)).str
      have HW7 := hide (HW6.out.trans (hb7.mono HW6.out.size))
      clear hown7 hb7 hok7
      go_wp2_with fail
      go_ret
      exact ⟨by simp, HW7.out⟩
    · have HW5 := hide (HW4.out.trans (hb5.mono HW4.out.size))
      have hs5 : w.heap.size < w5.heap.size := by have := hb5.size; omega
      have HZ5 := hide (heap_alloc_new w5 (.cells #[.int .i64 0, .int .u8 0, .int .u8 0, .int .u8 0, .int .u8 0, .int .u8 0, .int .u8 0, .int .i64 0, .int .i64 0, .int .i64 0, .int .i64 0, .int .i64 0, .int .u8 0, .int .u8 0, .int .u8 0, .int .u8 0, .int .u8 0, .int .u8 0, .int .i64 0, .int .i64 0, .int .i64 0, .int .i64 0, .int .i64 0] 27))
      clear hb5
      have hz6 := mac_zero
      go_wp2_with (first
        | (refine wpList_store_at rfl rfl w5.heap.size 0 #[.int .i64 0, .int .u8 0, .int .u8 0, .int .u8 0, .int .u8 0, .int .u8 0, .int .u8 0, .int .i64 0, .int .i64 0, .int .i64 0, .int .i64 0, .int .i64 0, .int .u8 0, .int .u8 0, .int .u8 0, .int .u8 0, .int .u8 0, .int .u8 0, .int .i64 0, .int .i64 0, .int .i64 0, .int .i64 0, .int .i64 0] rfl rfl 27 HZ5.out (by kernel_rfl) (by simp) (by simp [Value.oneCell']) #[.int .i64 0, .int .u8 0, .int .u8 0, .int .u8 0, .int .u8 0, .int .u8 0, .int .u8 0, .int .i64 0, .int .i64 0, .int .i64 0, .int .i64 0, .int .i64 0, .int .u8 0, .int .u8 0, .int .u8 0, .int .u8 0, .int .u8 0, .int .u8 0, .int .i64 0, .int .i64 0, .int .i64 0, .int .i64 0, .int .i64 0] rfl ?_; intro w6 hf6 hb6; have HQ6 := hide hb6; have HW6 := hide ((HW5.out.alloc HW5.out.size (.cells #[.int .i64 0, .int .u8 0, .int .u8 0, .int .u8 0, .int .u8 0, .int .u8 0, .int .u8 0, .int .i64 0, .int .i64 0, .int .i64 0, .int .i64 0, .int .i64 0, .int .u8 0, .int .u8 0, .int .u8 0, .int .u8 0, .int .u8 0, .int .u8 0, .int .i64 0, .int .i64 0, .int .i64 0, .int .i64 0, .int .i64 0] 27)).trans (hf6.below (by omega) (by have := HW5.out.size; simp; omega))); clear hf6 hb6)
        | (refine wpList_load_wt (ty := 27) (x := .tmp 10) rfl rfl w5.heap.size 0 rfl 27 #[.int .i64 0, .int .u8 0, .int .u8 0, .int .u8 0, .int .u8 0, .int .u8 0, .int .u8 0, .int .i64 0, .int .i64 0, .int .i64 0, .int .i64 0, .int .i64 0, .int .u8 0, .int .u8 0, .int .u8 0, .int .u8 0, .int .u8 0, .int .u8 0, .int .i64 0, .int .i64 0, .int .i64 0, .int .i64 0, .int .i64 0] (0, 0) _ HQ6.out Try.underlying27 rfl (by kernel_rfl) rfl ?_))
      go_ret
      exact ⟨by simp, HW6.out⟩
  · have HW2 := hide (HW1.out.trans (hb2.mono HW1.out.size))
    have HS2 := hide (HS1.out.below hb2 (by omega))
    have hs2 : w.heap.size < w2.heap.size := by have := hb2.size; omega
    clear hb2 hok HW1 HK1 HS1
    go_wp2_with fail
    refine (show Calls Try.prog 23 #[.slice A n cap] w2 (DecPost ys w2) from by have := decode_any A cap ys w2 (HS2.out.mono (by omega)); rwa [← HN.out] at this).mono ?_
    rintro e w5 (⟨b, q, f, k1, k2, k3, k4, k5, k6, rfl, hb5⟩ | ⟨hno, rfl, hb5⟩)
    · have HW5 := hide (HW2.out.trans (hb5.mono HW2.out.size))
      have HS5 := hide (HS2.out.below hb5 (by omega))
      have hs5 : w.heap.size < w5.heap.size := by have := hb5.size; omega
      have HZ5 := hide (heap_alloc_new w5 (.cells #[.int .i64 0, .int .u8 0, .int .u8 0, .int .u8 0, .int .u8 0, .int .u8 0, .int .u8 0, .int .i64 0, .int .i64 0, .int .i64 0, .int .i64 0, .int .i64 0, .int .u8 0, .int .u8 0, .int .u8 0, .int .u8 0, .int .u8 0, .int .u8 0, .int .i64 0, .int .i64 0, .int .i64 0, .int .i64 0, .int .i64 0] 27))
      have HS5' := hide (HS5.out.below ((Below.refl w5.heap.size w5).alloc (Nat.le_refl _) (.cells #[.int .i64 0, .int .u8 0, .int .u8 0, .int .u8 0, .int .u8 0, .int .u8 0, .int .u8 0, .int .i64 0, .int .i64 0, .int .i64 0, .int .i64 0, .int .i64 0, .int .u8 0, .int .u8 0, .int .u8 0, .int .u8 0, .int .u8 0, .int .u8 0, .int .i64 0, .int .i64 0, .int .i64 0, .int .i64 0, .int .i64 0] 27)) (by omega))
      have K1 := hide k1; have K3 := hide k3
      have HOk := hide (okL_true k2 k4 k5)
      have H6 := hide k6
      clear hb5 k1 k2 k3 k4 k5 k6
      go_wp2_with (first
        | (refine wpList_store_at rfl rfl w5.heap.size 0 #[.int .i64 b.sp, .int .u8 b.m0, .int .u8 b.m1, .int .u8 b.m2, .int .u8 b.m3, .int .u8 b.m4, .int .u8 b.m5, .int .i64 b.key, .int .i64 b.pp, .int .i64 b.port, .int .i64 b.st, .int .i64 q.sp, .int .u8 q.m0, .int .u8 q.m1, .int .u8 q.m2, .int .u8 q.m3, .int .u8 q.m4, .int .u8 q.m5, .int .i64 q.key, .int .i64 q.pp, .int .i64 q.port, .int .i64 q.st, .int .i64 f] rfl rfl 27 HZ5.out (by kernel_rfl) (by simp) (lacp_ones b q f) #[.int .i64 b.sp, .int .u8 b.m0, .int .u8 b.m1, .int .u8 b.m2, .int .u8 b.m3, .int .u8 b.m4, .int .u8 b.m5, .int .i64 b.key, .int .i64 b.pp, .int .i64 b.port, .int .i64 b.st, .int .i64 q.sp, .int .u8 q.m0, .int .u8 q.m1, .int .u8 q.m2, .int .u8 q.m3, .int .u8 q.m4, .int .u8 q.m5, .int .i64 q.key, .int .i64 q.pp, .int .i64 q.port, .int .i64 q.st, .int .i64 f] rfl ?_; intro w6 hf6 hb6; have HQ6 := hide hb6; have HF6 := hide hf6; have HS6 := hide (HS5'.out.frm hf6 (by omega)); have HW6 := hide ((HW5.out.alloc HW5.out.size (.cells #[.int .i64 0, .int .u8 0, .int .u8 0, .int .u8 0, .int .u8 0, .int .u8 0, .int .u8 0, .int .i64 0, .int .i64 0, .int .i64 0, .int .i64 0, .int .i64 0, .int .u8 0, .int .u8 0, .int .u8 0, .int .u8 0, .int .u8 0, .int .u8 0, .int .i64 0, .int .i64 0, .int .i64 0, .int .i64 0, .int .i64 0] 27)).trans (hf6.below (by omega) (by have := HW5.out.size; simp; omega))); clear hf6 hb6)
        | (refine wpList_load_wt (ty := 27) (x := .tmp 10) rfl rfl w5.heap.size 0 rfl 27 #[.int .i64 b.sp, .int .u8 b.m0, .int .u8 b.m1, .int .u8 b.m2, .int .u8 b.m3, .int .u8 b.m4, .int .u8 b.m5, .int .i64 b.key, .int .i64 b.pp, .int .i64 b.port, .int .i64 b.st, .int .i64 q.sp, .int .u8 q.m0, .int .u8 q.m1, .int .u8 q.m2, .int .u8 q.m3, .int .u8 q.m4, .int .u8 q.m5, .int .i64 q.key, .int .i64 q.pp, .int .i64 q.port, .int .i64 q.st, .int .i64 f] (0, 0) _ HQ6.out Try.underlying27 rfl (by kernel_rfl) rfl ?_))
      have hs6 : w.heap.size < w6.heap.size := by have := HF6.out.size; simp at this; omega
      clear HF6 HQ6 HS5 HS5' HW5 HZ5
      refine (encode_any b q f w6 K1.out K3.out).mono ?_
      rintro e w7 (⟨hok7, g7, c7, rfl, hown7, hb7⟩ | ⟨hok7, rfl, hb7⟩)
      rotate_left
      · rw [HOk.out] at hok7
        exact absurd hok7 (by decide)
      have s1 : (convert 29 9 (.slice (some ⟨g7, 0, none⟩) 110 c7)).run Try.prog w7 = .ok (.string ⟨ys.toArray⟩) w7 := by rw [H6.out]; exact hown7.str (by decide)
      have s2 : (convert 29 9 (.slice A n cap)).run Try.prog w7 = .ok (.string ⟨ys.toArray⟩) w7 := by rw [HN.out]; exact (HS6.out.below hb7 (by omega)).str
      have HW7 := hide (HW6.out.trans (hb7.mono HW6.out.size))
      clear hown7 hb7 hok7
      go_wp2_with fail
      go_ret
      exact ⟨by simp, HW7.out⟩
    · have HW5 := hide (HW2.out.trans (hb5.mono HW2.out.size))
      have hs5 : w.heap.size < w5.heap.size := by have := hb5.size; omega
      have HZ5 := hide (heap_alloc_new w5 (.cells #[.int .i64 0, .int .u8 0, .int .u8 0, .int .u8 0, .int .u8 0, .int .u8 0, .int .u8 0, .int .i64 0, .int .i64 0, .int .i64 0, .int .i64 0, .int .i64 0, .int .u8 0, .int .u8 0, .int .u8 0, .int .u8 0, .int .u8 0, .int .u8 0, .int .i64 0, .int .i64 0, .int .i64 0, .int .i64 0, .int .i64 0] 27))
      clear hb5
      have hz6 := mac_zero
      go_wp2_with (first
        | (refine wpList_store_at rfl rfl w5.heap.size 0 #[.int .i64 0, .int .u8 0, .int .u8 0, .int .u8 0, .int .u8 0, .int .u8 0, .int .u8 0, .int .i64 0, .int .i64 0, .int .i64 0, .int .i64 0, .int .i64 0, .int .u8 0, .int .u8 0, .int .u8 0, .int .u8 0, .int .u8 0, .int .u8 0, .int .i64 0, .int .i64 0, .int .i64 0, .int .i64 0, .int .i64 0] rfl rfl 27 HZ5.out (by kernel_rfl) (by simp) (by simp [Value.oneCell']) #[.int .i64 0, .int .u8 0, .int .u8 0, .int .u8 0, .int .u8 0, .int .u8 0, .int .u8 0, .int .i64 0, .int .i64 0, .int .i64 0, .int .i64 0, .int .i64 0, .int .u8 0, .int .u8 0, .int .u8 0, .int .u8 0, .int .u8 0, .int .u8 0, .int .i64 0, .int .i64 0, .int .i64 0, .int .i64 0, .int .i64 0] rfl ?_; intro w6 hf6 hb6; have HQ6 := hide hb6; have HW6 := hide ((HW5.out.alloc HW5.out.size (.cells #[.int .i64 0, .int .u8 0, .int .u8 0, .int .u8 0, .int .u8 0, .int .u8 0, .int .u8 0, .int .i64 0, .int .i64 0, .int .i64 0, .int .i64 0, .int .i64 0, .int .u8 0, .int .u8 0, .int .u8 0, .int .u8 0, .int .u8 0, .int .u8 0, .int .i64 0, .int .i64 0, .int .i64 0, .int .i64 0, .int .i64 0] 27)).trans (hf6.below (by omega) (by have := HW5.out.size; simp; omega))); clear hf6 hb6)
        | (refine wpList_load_wt (ty := 27) (x := .tmp 10) rfl rfl w5.heap.size 0 rfl 27 #[.int .i64 0, .int .u8 0, .int .u8 0, .int .u8 0, .int .u8 0, .int .u8 0, .int .u8 0, .int .i64 0, .int .i64 0, .int .i64 0, .int .i64 0, .int .i64 0, .int .u8 0, .int .u8 0, .int .u8 0, .int .u8 0, .int .u8 0, .int .u8 0, .int .i64 0, .int .i64 0, .int .i64 0, .int .i64 0, .int .i64 0] (0, 0) _ HQ6.out Try.underlying27 rfl (by kernel_rfl) rfl ?_))
      go_ret
      exact ⟨by simp, HW6.out⟩

/-! ### The row -/
set_option maxRecDepth 100000 in
theorem lacpduBack_lifted (os : Os) (started : os.Started) (H : Type) (enc : TypeId × Value → H) :
    ReturnsInHanded {} Try.checked os 8 .any (Rows.lacpduBackSpec.pre6 enc Try.prog Try.f8 Rows.lacpduBackRow.domain false) (Rows.lacpduBackSpec.post enc Try.prog Try.f8 false true false false) := by
  refine returnsInHanded_of_change (C := Try.checked) own started (by kernel_rfl) Try.func8
    (ChangeSpec.witness6 (enc := enc) (C := Try.checked) false ⟨#[], #[.agg #[.int .i64 0, .int .u8 0, .int .u8 0, .int .u8 0, .int .u8 0, .int .u8 0, .int .u8 0, .int .i64 0, .int .i64 0, .int .i64 0, .int .i64 0, .int .i64 0, .int .u8 0, .int .u8 0, .int .u8 0, .int .u8 0, .int .u8 0, .int .u8 0, .int .i64 0, .int .i64 0, .int .i64 0, .int .i64 0, .int .i64 0], .slice none 0 0], []⟩ 8 (by kernel_rfl) (by kernel_rfl) (by kernel_rfl) (by kernel_rfl)) ?_
  intro W base args ds gs before hval0 hW hcnd _
  have hval : ∀ (j : Nat) t v, Try.f8.params[j]? = some t → args[j]? = some v → Value.okWide Try.prog W .any base t v := hval0
  have hW' : DataW.Whole enc Try.prog Try.f8.params.toList Rows.lacpduBackSpec.vars false W args.toList ds gs before := hW
  have hlen : args.toList.length = Try.f8.params.toList.length ∧ ds.length = Try.f8.params.toList.length := by
    obtain ⟨p, q, hA, _⟩ := hW'
    exact trodAll_len _ _ _ _ hA
  rw [Try.params8] at hval hlen
  obtain ⟨p0, p1, rfl⟩ := args2 args hlen.1
  obtain ⟨d0, d1, rfl⟩ := list2 ds hlen.2
  obtain rfl : gs = [] := by
    obtain ⟨p, q, _, hV, _⟩ := hW'
    exact (trodVars_none hV).1
  obtain ⟨_, _, hA, _⟩ := id hW'
  rw [Try.params8] at hA
  obtain ⟨_, _, hT0, hA, _⟩ := hA
  obtain ⟨_, _, hT1, hA, _⟩ := hA
  obtain ⟨xa, xp, xd, rfl, hxa, hxp, hxd⟩ := open_lacp (hval 0 27 p0 rfl rfl)
  obtain ⟨A, cap, ys, rfl, hl⟩ := open_src (hval 1 29 p1 rfl rfl) hT1
  refine (lacpduBack_any xa xp xd A cap ys W hxa hxp hxd hl).mono fun e W' ⟨he, hb⟩ => ?_
  subst he
  have hp : ∀ t ∈ Try.f8.params.toList, Try.prog.readableRec t = true ∧ t < Try.prog.types.size := by
    rw [Try.params8]
    intro t ht
    simp at ht
    rcases ht with rfl | rfl
    all_goals first | exact readable27 | exact readable29
  have hpost := law_post (enc := enc) (P := Try.prog) (f := Try.f8) (s := Rows.lacpduBackSpec) (tb := 4) (W' := W') laidOut hW' rfl (by kernel_rfl) Try.underlying4 hp ⟨rfl, rfl, rfl⟩ hb
  exact ⟨_, rfl, hpost⟩

theorem lacpduBack_holds : Rows.LacpduBackSaid :=
  OpenClaim.holds_of_wide 8 Try.f8 rfl rfl rfl rfl rfl rfl rfl ⟨rfl, rfl, rfl, rfl, rfl⟩ rfl rfl rfl rfl rfl (by kernel_rfl) Try.func8 (by kernel_rfl)
    (of_decide_eq_true (by kernel_rfl)) (by unfold Func.isWrapper; first | (rw [if_pos (by decide +kernel)]; kernel_rfl) | (rw [if_neg (by decide +kernel)]; exact ⟨rfl, rfl⟩))
    (fun os started H enc _ => lacpduBack_lifted os started H enc)
#print axioms lacpduBack_holds
end Go.Proofs.Ytooieocfgifpgaa

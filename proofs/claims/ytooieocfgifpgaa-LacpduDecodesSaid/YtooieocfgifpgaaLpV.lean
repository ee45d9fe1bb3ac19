/-
  The reference's Decode.
-/
import Derived.Test.YtooieocfgifpgaaLpU
namespace Go.Proofs.Ytooieocfgifpgaa
open Go.RowKit Go.WideShapes Go.ChangeShapes
set_option linter.unusedVariables false

/-- A slice of bytes that came in. -/
theorem open_src {H : Type} {enc : TypeId × Value → H} {w : World} {r : Reach} {base : Nat} {v : Value} {d : DataW H} {ps : List MemPlace} (hv : Value.okWide Try.prog w r base 29 v)
    (hT : DataW.Trod enc Try.prog w 0 (fun _ => true) true 29 v d ps) : ∃ A cap ys, v = .slice A ys.length cap ∧ SrcAt w w.heap.size A cap ys := by
  have hu := Try.underlying29
  obtain ⟨fuel, hT⟩ := hT
  have hmax : IntKind.i64.max = 9223372036854775807 := rfl
  obtain ⟨A, n, cap, rfl⟩ := okWide_slice hu hv
  simp only [Value.okWide, hu, Cell.okWide] at hv
  rcases Go.Deep.open_slice1 hu cellsOf5 (show DataW.trod enc Try.prog w 0 (fun _ => true) true fuel 29 [.slice A n cap] = some (d, ps) from hT) with ⟨h0, _⟩ | ⟨a, len, cap', m, q, V, D, Pl, h0, _, hl, hm, hmm, _, hel⟩
  · injection h0 with h0 _
    injection h0 with h1 h2 h3
    subst h1 h2 h3
    exact ⟨none, 0, [], rfl, by simp, by omega, .inl rfl⟩
  · injection h0 with h0 _
    injection h0 with h1 h2 h3
    subst h1 h2 h3
    simp only [Cell.ok, hu] at hv
    obtain ⟨_, hcap, _, hspot, _⟩ := hv
    have hmx : maxLen = 9223372036854775807 := rfl
    obtain ⟨b, o, sp⟩ := a
    simp at hspot
    subst hspot
    simp at hmm
    obtain ⟨K, hK⟩ := Go.Deep.choose_lt (α := Int) (n := n) (p := fun i k => w.cell? ⟨b, o + i, none⟩ = some (.int .u8 k) ∧ 0 ≤ k ∧ k < 256) (fun i hi => by
      obtain ⟨h1, h2⟩ := hel i (by omega)
      obtain ⟨k, hk, _, hw⟩ := DataW.trod_int Try.underlying5 h2
      injection hk with hk _
      rw [hk] at h1
      exact ⟨k, cellAt_of_add _ h1, wf_u8 hw⟩)
    have hlen : ((List.range n).map fun i => UInt8.ofNat (K i).toNat).length = n := by simp
    refine ⟨some ⟨b, o, none⟩, cap, (List.range n).map fun i => UInt8.ofNat (K i).toNat, by rw [hlen], by rw [hlen]; exact hl, by omega, ?_⟩
    by_cases h0 : n = 0
    · subst h0; exact .inl rfl
    · refine .inr ⟨b, o, rfl, cell_lt (hK 0 (by omega)).1, fun i hi => ?_⟩
      have hi' : i < n := by simpa using hi
      rw [(hK i hi').1]
      have hk := (hK i hi').2
      simp
      omega

theorem SrcAt.str {w : World} {B : Nat} {A : Option Addr} {cap : Nat} {ys : List UInt8} (h : SrcAt w B A cap ys) : (convert 29 9 (.slice A ys.length cap)).run Try.prog w = .ok (.string ⟨ys.toArray⟩) w := by
  obtain ⟨h1, h2, h3⟩ := h
  rcases h3 with rfl | ⟨b, o, rfl, hb, hc⟩
  · cases A with
    | none => exact Go.Lib.run_convert_nil_bytes w 29 9 5 cap Try.underlying29 Try.underlying5 Try.underlying9
    | some a => exact run_convert_bytes_back w 29 9 5 a cap [] Try.underlying29 Try.underlying5 Try.underlying9 (fun j hj => by simp at hj)
  · exact run_convert_bytes_back w 29 9 5 _ cap ys Try.underlying29 Try.underlying5 Try.underlying9 (fun j hj => by
      have e : ((⟨b, o, none⟩ : Addr).add j) = ⟨b, o + j, none⟩ := by
        simp only [Addr.add]
        split
        · next h0 => rw [h0]; rfl
        · rfl
      rw [e]; exact hc j hj)
theorem OwnB.src {w : World} {base g k c : Nat} {ys : List UInt8} (h : OwnB w base g k c ys) : SrcAt w w.heap.size (some ⟨g, 0, none⟩) c ys := by
  have hl := h.len
  have hc : k ≤ c ∧ c ≤ maxLen := by
    rcases h.2 with ⟨h0, -⟩ | ⟨g', c', cur, h0, -, -, h1, h2, -⟩
    · simp at h0
    · injection h0 with _ _ h0
      subst h0
      exact ⟨h1, h2⟩
  have hmx : maxLen = 9223372036854775807 := rfl
  exact ⟨by omega, by omega, .inr ⟨g, 0, rfl, h.lt.2, fun i hi => by rw [Nat.zero_add]; exact h.cell i hi⟩⟩
theorem SrcAt.mono {w : World} {B B' : Nat} {A : Option Addr} {cap : Nat} {ys : List UInt8} (h : SrcAt w B A cap ys) (hB : B ≤ B') : SrcAt w B' A cap ys := by
  obtain ⟨h1, h2, h3⟩ := h
  refine ⟨h1, h2, ?_⟩
  rcases h3 with h3 | ⟨b, o, rfl, hb, hc⟩
  · exact .inl h3
  · exact .inr ⟨b, o, rfl, by omega, hc⟩
theorem okL_true {a p : Inf} {d : Int} (ha : a.fine) (hp : p.fine) (hd : 0 ≤ d ∧ d ≤ 65535) : okL a p d = true := by
  simp only [okL, Bool.and_eq_true]
  exact ⟨⟨(Inf.ok_iff a).2 ha, (Inf.ok_iff p).2 hp⟩, (inW_iff _ _).2 hd⟩
theorem dec_enc {a p : Inf} {d : Int} (ha : a.wf) (hp : p.wf) (hok : okL a p d = true) {w w' : World} {e : Ending} (h : DecPost (encL a p d) w e w') : e = .returned (.tuple #[.agg #[.int .i64 a.sp, .int .u8 a.m0, .int .u8 a.m1, .int .u8 a.m2, .int .u8 a.m3, .int .u8 a.m4, .int .u8 a.m5, .int .i64 a.key, .int .i64 a.pp, .int .i64 a.port, .int .i64 a.st, .int .i64 p.sp, .int .u8 p.m0, .int .u8 p.m1, .int .u8 p.m2, .int .u8 p.m3, .int .u8 p.m4, .int .u8 p.m5, .int .i64 p.key, .int .i64 p.pp, .int .i64 p.port, .int .i64 p.st, .int .i64 d], .int .i64 0]) ∧ Below w.heap.size w w' := by
  obtain ⟨fa, fp, fd⟩ := okL_fine hok
  rcases h with ⟨b, q, f, k1, k2, k3, k4, k5, k6, rfl, hb⟩ | ⟨hno, -⟩
  · obtain ⟨rfl, rfl, rfl⟩ := encL_inj ha hp k1 k3 fa fp k2 k4 fd k5 k6
    exact ⟨rfl, hb⟩
  · exact absurd ⟨a, p, d, ha, fa, hp, fp, fd, rfl⟩ hno
theorem wpList_eq27g {ops : Array Oper} {rest : List Oper} {o : Oper} {a : Act} {w : World} {Q : Exit → Act → World → Prop} {s t : Operand} (ho : o.op = .binOp .eql 27 s t 27) (hgd : Region.wanted o (yielded ops a.tmps) = true) (x y : Inf) (d : Int) (x' y' : Inf) (d' : Int) (hx : a.eval s = .agg #[.int .i64 x.sp, .int .u8 x.m0, .int .u8 x.m1, .int .u8 x.m2, .int .u8 x.m3, .int .u8 x.m4, .int .u8 x.m5, .int .i64 x.key, .int .i64 x.pp, .int .i64 x.port, .int .i64 x.st, .int .i64 y.sp, .int .u8 y.m0, .int .u8 y.m1, .int .u8 y.m2, .int .u8 y.m3, .int .u8 y.m4, .int .u8 y.m5, .int .i64 y.key, .int .i64 y.pp, .int .i64 y.port, .int .i64 y.st, .int .i64 d]) (hy : a.eval t = .agg #[.int .i64 x'.sp, .int .u8 x'.m0, .int .u8 x'.m1, .int .u8 x'.m2, .int .u8 x'.m3, .int .u8 x'.m4, .int .u8 x'.m5, .int .i64 x'.key, .int .i64 x'.pp, .int .i64 x'.port, .int .i64 x'.st, .int .i64 y'.sp, .int .u8 y'.m0, .int .u8 y'.m1, .int .u8 y'.m2, .int .u8 y'.m3, .int .u8 y'.m4, .int .u8 y'.m5, .int .i64 y'.key, .int .i64 y'.pp, .int .i64 y'.port, .int .i64 y'.st, .int .i64 d']) {E : Bool} (hE : eqL x y d x' y' d' = E)
    (hk : wpList Try.prog ops Q rest (a.put o.dst (.bool E)) w) : wpList Try.prog ops Q (o :: rest) a w :=
  wpList_run hgd (.bool E) (by subst hE; exact run_eq_op ho hx hy guard27 (run_eqL w 9996 x y d x' y' d')) hk
theorem wpList_ne27g {ops : Array Oper} {rest : List Oper} {o : Oper} {a : Act} {w : World} {Q : Exit → Act → World → Prop} {s t : Operand} (ho : o.op = .binOp .neq 27 s t 27) (hgd : Region.wanted o (yielded ops a.tmps) = true) (x y : Inf) (d : Int) (hx : a.eval s = .agg #[.int .i64 x.sp, .int .u8 x.m0, .int .u8 x.m1, .int .u8 x.m2, .int .u8 x.m3, .int .u8 x.m4, .int .u8 x.m5, .int .i64 x.key, .int .i64 x.pp, .int .i64 x.port, .int .i64 x.st, .int .i64 y.sp, .int .u8 y.m0, .int .u8 y.m1, .int .u8 y.m2, .int .u8 y.m3, .int .u8 y.m4, .int .u8 y.m5, .int .i64 y.key, .int .i64 y.pp, .int .i64 y.port, .int .i64 y.st, .int .i64 d]) (hy : a.eval t = .agg #[.int .i64 x.sp, .int .u8 x.m0, .int .u8 x.m1, .int .u8 x.m2, .int .u8 x.m3, .int .u8 x.m4, .int .u8 x.m5, .int .i64 x.key, .int .i64 x.pp, .int .i64 x.port, .int .i64 x.st, .int .i64 y.sp, .int .u8 y.m0, .int .u8 y.m1, .int .u8 y.m2, .int .u8 y.m3, .int .u8 y.m4, .int .u8 y.m5, .int .i64 y.key, .int .i64 y.pp, .int .i64 y.port, .int .i64 y.st, .int .i64 d])
    (hk : wpList Try.prog ops Q rest (a.put o.dst (.bool false)) w) : wpList Try.prog ops Q (o :: rest) a w :=
  wpList_run hgd (.bool false) (by have := run_ne_op ho hx hy guard27 (run_eqL w 9996 x y d x y d); rwa [eqL_self] at this) hk
theorem wpList_load_wt {P : Program} {ops : Array Oper} {rest : List Oper} {o : Oper} {a : Act} {w : World} {Q : Exit → Act → World → Prop} {ty : TypeId} {x : Operand} (ho : o.op = .load ty x) (hgd : Region.wanted o (yielded ops a.tmps) = true)
    (g off : Nat) (hx : a.eval x = .pointer (some ⟨g, off, none⟩)) (t : TypeId) {cs : Array Value} (vs : Array Value) (fr : Nat × Nat) (d : TypeDesc) (hg : w.heap[g]? = some (.cells cs t fr))
    (hu : P.underlying ty = some d) (hd : (match d with | .struct _ | .array _ _ => true | _ => false) = true) (hi : (P.info? ty).map (·.size) = some vs.size) (hvs : (cs.toList.drop off).take vs.size = vs.toList)
    (h : wpList P ops Q rest (a.put o.dst (.agg vs)) w) : wpList P ops Q (o :: rest) a w :=
  wpList_run hgd (.agg vs) (run_load_part ty x ho g off hx t cs vs fr d hg hu hd hi hvs) h

theorem list15 {α : Type} {l : List α} (h : 15 ≤ l.length) : ∃ a b c d e f g h i j k m n p q r, l = [a, b, c, d, e, f, g, h, i, j, k, m, n, p, q] ++ r := by
  match l, h with
  | a :: b :: c :: d :: e :: f :: g :: h :: i :: j :: k :: m :: n :: p :: q :: r, _ => exact ⟨a, b, c, d, e, f, g, h, i, j, k, m, n, p, q, r, rfl⟩
theorem list2' {α : Type} {l : List α} (h : 2 ≤ l.length) : ∃ a b r, l = a :: b :: r := by
  match l, h with
  | a :: b :: r, _ => exact ⟨a, b, r, rfl⟩
theorem num2_two {n : Int} (h : 0 ≤ n ∧ n ≤ 65535) : num2 (byteOf (n / 256)) (byteOf n) = n := by
  unfold num2
  rw [byteOf_toNat, byteOf_toNat]
  omega
theorem byteOf_back {n : Int} (h : 0 ≤ n ∧ n < 256) : ((byteOf n).toNat : Int) = n := by
  rw [byteOf_toNat]
  omega
theorem told_wf (s0 s1 m0 m1 m2 m3 m4 m5 k0 k1 p0 p1 q0 q1 st : UInt8) : (told s0 s1 m0 m1 m2 m3 m4 m5 k0 k1 p0 p1 q0 q1 st).wf := by
  have h0 := m0.toNat_lt; have h1 := m1.toNat_lt; have h2 := m2.toNat_lt; have h3 := m3.toNat_lt; have h4 := m4.toNat_lt; have h5 := m5.toNat_lt; have h6 := st.toNat_lt
  have a1 := num2_range s0 s1; have a2 := num2_range k0 k1; have a3 := num2_range p0 p1; have a4 := num2_range q0 q1
  unfold told
  constructor <;> (show _ ∧ _) <;> simp only <;> omega
theorem told_fine (s0 s1 m0 m1 m2 m3 m4 m5 k0 k1 p0 p1 q0 q1 st : UInt8) : (told s0 s1 m0 m1 m2 m3 m4 m5 k0 k1 p0 p1 q0 q1 st).fine := by
  have h6 := st.toNat_lt
  have a1 := num2_range s0 s1; have a2 := num2_range k0 k1; have a3 := num2_range p0 p1; have a4 := num2_range q0 q1
  unfold told
  constructor <;> (show _ ∧ _) <;> simp only <;> omega
theorem told_bytes {x : Inf} (hx : x.wf) (hf : x.fine) : told (byteOf (x.sp / 256)) (byteOf x.sp) (byteOf x.m0) (byteOf x.m1) (byteOf x.m2) (byteOf x.m3) (byteOf x.m4) (byteOf x.m5) (byteOf (x.key / 256)) (byteOf x.key) (byteOf (x.pp / 256)) (byteOf x.pp) (byteOf (x.port / 256)) (byteOf x.port) (byteOf x.st) = x := by
  obtain ⟨-, u0, u1, u2, u3, u4, u5, -, -, -, -⟩ := hx
  obtain ⟨f1, f2, f3, f4, f5⟩ := hf
  unfold told
  rw [num2_two f1, num2_two f2, num2_two f3, num2_two f4, byteOf_back u0, byteOf_back u1, byteOf_back u2, byteOf_back u3, byteOf_back u4, byteOf_back u5, byteOf_back ⟨f5.1, by omega⟩]
theorem whole_told {ys zs1 zs2 zs3 : List UInt8} {as0 as1 am0 am1 am2 am3 am4 am5 ak0 ak1 ap0 ap1 aq0 aq1 ast bs0 bs1 bm0 bm1 bm2 bm3 bm4 bm5 bk0 bk1 bp0 bp1 bq0 bq1 bst d0 d1 : UInt8} (h1 : ys.drop 4 = [as0, as1, am0, am1, am2, am3, am4, am5, ak0, ak1, ap0, ap1, aq0, aq1, ast] ++ zs1) (h2 : ys.drop 24 = [bs0, bs1, bm0, bm1, bm2, bm3, bm4, bm5, bk0, bk1, bp0, bp1, bq0, bq1, bst] ++ zs2) (h3 : ys.drop 44 = d0 :: d1 :: zs3) (hw : WholeAt ys) :
    encL (told as0 as1 am0 am1 am2 am3 am4 am5 ak0 ak1 ap0 ap1 aq0 aq1 ast) (told bs0 bs1 bm0 bm1 bm2 bm3 bm4 bm5 bk0 bk1 bp0 bp1 bq0 bq1 bst) (num2 d0 d1) = ys := by
  obtain ⟨a, p, d, ha, fa, hp, fp, fd, rfl⟩ := hw
  simp [encL, Inf.bytes, two] at h1 h2 h3
  obtain ⟨rfl, rfl, rfl, rfl, rfl, rfl, rfl, rfl, rfl, rfl, rfl, rfl, rfl, rfl, rfl, -⟩ := h1
  obtain ⟨rfl, rfl, rfl, rfl, rfl, rfl, rfl, rfl, rfl, rfl, rfl, rfl, rfl, rfl, rfl, -⟩ := h2
  obtain ⟨rfl, rfl, -⟩ := h3
  rw [told_bytes ha fa, told_bytes hp fp, num2_two fd]

set_option maxRecDepth 100000 in
set_option maxHeartbeats 8000000 in
theorem refDecode_any (A : Option Addr) (cap : Nat) (ys : List UInt8) (w : World) (hs : SrcAt w w.heap.size A cap ys) :
    Calls Try.prog 24 #[.slice A ys.length cap] w (DecPost ys w) := by
  have HW := hide (heap_alloc_new w (.cells #[.int .i64 0, .int .u8 0, .int .u8 0, .int .u8 0, .int .u8 0, .int .u8 0, .int .u8 0, .int .i64 0, .int .i64 0, .int .i64 0, .int .i64 0, .int .i64 0, .int .u8 0, .int .u8 0, .int .u8 0, .int .u8 0, .int .u8 0, .int .u8 0, .int .i64 0, .int .i64 0, .int .i64 0, .int .i64 0, .int .i64 0] 27))
  have HB := hide ((Below.refl w.heap.size w).alloc (Nat.le_refl _) (.cells #[.int .i64 0, .int .u8 0, .int .u8 0, .int .u8 0, .int .u8 0, .int .u8 0, .int .u8 0, .int .i64 0, .int .i64 0, .int .i64 0, .int .i64 0, .int .i64 0, .int .u8 0, .int .u8 0, .int .u8 0, .int .u8 0, .int .u8 0, .int .u8 0, .int .i64 0, .int .i64 0, .int .i64 0, .int .i64 0, .int .i64 0] 27))
  have HS := hide hs
  by_cases hn : ys.length = 110
  rotate_left
  · have hn' : ¬ ((ys.length : Int) = 110) := by omega
    have HN := hide (show ¬ WholeAt ys from fun ⟨a, p, d, _, _, _, _, _, h⟩ => hn (by rw [h]; exact encL_length a p d))
    obtain ⟨n, hnn⟩ : ∃ n, n = ys.length := ⟨_, rfl⟩
    rw [← hnn] at hn' ⊢
    clear hs hn hnn
    go_enter Try.func24, Try.ntmps24
    go_wp2_with (refine wpList_store_at rfl rfl w.heap.size 0 #[.int .i64 0, .int .u8 0, .int .u8 0, .int .u8 0, .int .u8 0, .int .u8 0, .int .u8 0, .int .i64 0, .int .i64 0, .int .i64 0, .int .i64 0, .int .i64 0, .int .u8 0, .int .u8 0, .int .u8 0, .int .u8 0, .int .u8 0, .int .u8 0, .int .i64 0, .int .i64 0, .int .i64 0, .int .i64 0, .int .i64 0] rfl rfl 27 HW.out (by kernel_rfl) (by simp) (by simp [Value.oneCell']) #[.int .i64 0, .int .u8 0, .int .u8 0, .int .u8 0, .int .u8 0, .int .u8 0, .int .u8 0, .int .i64 0, .int .i64 0, .int .i64 0, .int .i64 0, .int .i64 0, .int .u8 0, .int .u8 0, .int .u8 0, .int .u8 0, .int .u8 0, .int .u8 0, .int .i64 0, .int .i64 0, .int .i64 0, .int .i64 0, .int .i64 0] rfl ?_; intro u2 hf2 hb2; have HB2 := hide hb2; have HF2 := hide hf2; clear hf2 hb2)
    (try simp only [Exit.inBlock, Exit.then])
    refine bodyPost_ret (res_lacp rfl _ _ w.heap.size _ (0, 0) rfl HB2.out rfl) rfl (.inr ⟨HN.out, rfl, HB.out.trans (HF2.out.below (Nat.le_refl _) (by simp))⟩)
  obtain ⟨h1, h2, h3⟩ := hs
  rcases h3 with h3 | ⟨b, o, rfl, hb, hc⟩
  · rw [h3] at hn; exact absurd hn (by decide)
  obtain ⟨as0, as1, am0, am1, am2, am3, am4, am5, ak0, ak1, ap0, ap1, aq0, aq1, ast, zs1, hy1⟩ := list15 (show 15 ≤ (ys.drop 4).length by rw [List.length_drop]; omega)
  obtain ⟨bs0, bs1, bm0, bm1, bm2, bm3, bm4, bm5, bk0, bk1, bp0, bp1, bq0, bq1, bst, zs2, hy2⟩ := list15 (show 15 ≤ (ys.drop 24).length by rw [List.length_drop]; omega)
  obtain ⟨d0, d1, zs3, hy3⟩ := list2' (show 2 ≤ (ys.drop 44).length by rw [List.length_drop]; omega)
  obtain ⟨xa, hxa⟩ : ∃ x, x = told as0 as1 am0 am1 am2 am3 am4 am5 ak0 ak1 ap0 ap1 aq0 aq1 ast := ⟨_, rfl⟩
  obtain ⟨xb, hxb⟩ : ∃ x, x = told bs0 bs1 bm0 bm1 bm2 bm3 bm4 bm5 bk0 bk1 bp0 bp1 bq0 bq1 bst := ⟨_, rfl⟩
  obtain ⟨xd, hxd⟩ : ∃ x, x = num2 d0 d1 := ⟨_, rfl⟩
  have HWh := hide (show WholeAt ys → encL xa xb xd = ys from fun h => by rw [hxa, hxb, hxd]; exact whole_told hy1 hy2 hy3 h)
  have HXA := hide hxa; have HXB := hide hxb; have HXD := hide hxd
  have hwa : xa.wf := by rw [hxa]; exact told_wf _ _ _ _ _ _ _ _ _ _ _ _ _ _ _
  have hwb : xb.wf := by rw [hxb]; exact told_wf _ _ _ _ _ _ _ _ _ _ _ _ _ _ _
  have hfa : xa.fine := by rw [hxa]; exact told_fine _ _ _ _ _ _ _ _ _ _ _ _ _ _ _
  have hfb : xb.fine := by rw [hxb]; exact told_fine _ _ _ _ _ _ _ _ _ _ _ _ _ _ _
  have hfd : 0 ≤ xd ∧ xd ≤ 65535 := by rw [hxd]; exact num2_range _ _
  have HOk := hide (okL_true hfa hfb hfd)
  have HF := hide (And.intro hwa (And.intro hfa (And.intro hwb (And.intro hfb hfd))))
  clear hwa hwb hfa hfb hfd
  obtain ⟨w1, hw1⟩ : ∃ u, u = w.alloc (.cells #[.int .i64 0, .int .u8 0, .int .u8 0, .int .u8 0, .int .u8 0, .int .u8 0, .int .u8 0, .int .i64 0, .int .i64 0, .int .i64 0, .int .i64 0, .int .i64 0, .int .u8 0, .int .u8 0, .int .u8 0, .int .u8 0, .int .u8 0, .int .u8 0, .int .i64 0, .int .i64 0, .int .i64 0, .int .i64 0, .int .i64 0] 27) := ⟨_, rfl⟩
  have HW1 := hide hw1
  rw [← hw1] at HW HB
  have hws : w.heap.size < w1.heap.size := by rw [hw1]; simp
  have hbl : b < w1.heap.size := by omega
  have HC := hide (show BytesAt w1 b o ys from fun i hi => (HB.out.cell (by exact hb)).trans (hc i hi))
  have i1 : (22 : Int) ≤ (cap : Int) := by omega
  have i2 : (42 : Int) ≤ (cap : Int) := by omega
  have i3 : (110 : Int) ≤ (cap : Int) := by omega
  have i4 : ¬ cap = 4 := by omega
  have i5 : ¬ cap = 24 := by omega
  have i6 : ¬ cap = 44 := by omega
  have i7 : ¬ 4 = cap := by omega
  have i8 : ¬ 24 = cap := by omega
  have i9 : ¬ 44 = cap := by omega
  have hcap : 110 ≤ cap := by omega
  have HL := hide hn
  rw [hn]
  clear hw1 hn h1 h2 hc hxa hxb hxd
  have HY1 := hide hy1; have HY2 := hide hy2; have HY3 := hide hy3
  clear hy1 hy2 hy3
  go_enter Try.func24, Try.ntmps24
  go_wp2_with fail
  rw [← HW1.out]
  refine wp_region_made 10 (.cells #[.int .i64 0, .int .u8 0, .int .u8 0, .int .u8 0, .int .u8 0, .int .u8 0, .int .u8 0, .int .i64 0, .int .i64 0, .int .i64 0, .int .i64 0, .int .i64 0, .int .u8 0, .int .u8 0, .int .u8 0, .int .u8 0, .int .u8 0, .int .u8 0, .int .i64 0, .int .i64 0, .int .i64 0, .int .i64 0, .int .i64 0] 27) (by kernel_rfl) (by kernel_rfl) _ rfl (fun a u hu => by go_simp) (fun v hv => ?_)
  have hN := above_some v
  have hAb : ∀ u : Above v, Below w1.heap.size w1 u.w := fun u => by obtain ⟨u, hu⟩ := u; subst hv; exact ⟨hu.os, hu.tape, hu.output, hu.size, hu.block⟩
  have KC : ∀ u : Above v, BytesAt u.w b o ys := fun u => HC.out.below (hAb u) hbl
  have hbu : ∀ u : Above v, b < u.w.heap.size := fun u => by have := (hAb u).size; omega
  have HN1 := hide (fun u : Above v => show Calls Try.prog 53 #[.slice (some ⟨b, o + 4, none⟩) 18 (cap - 4)] u.w fun e w' => e = .returned (.agg #[.int .i64 xa.sp, .int .u8 xa.m0, .int .u8 xa.m1, .int .u8 xa.m2, .int .u8 xa.m3, .int .u8 xa.m4, .int .u8 xa.m5, .int .i64 xa.key, .int .i64 xa.pp, .int .i64 xa.port, .int .i64 xa.st]) ∧ Below u.w.heap.size u.w w' from by
    rw [HXA.out]; exact told_any b (o + 4) (cap - 4) _ _ _ _ _ _ _ _ _ _ _ _ _ _ _ zs1 u.w (by omega) (hbu u) (by have := (KC u).drop 4; rw [HY1.out] at this; exact this))
  have HN2 := hide (fun u : Above v => show Calls Try.prog 53 #[.slice (some ⟨b, o + 24, none⟩) 18 (cap - 24)] u.w fun e w' => e = .returned (.agg #[.int .i64 xb.sp, .int .u8 xb.m0, .int .u8 xb.m1, .int .u8 xb.m2, .int .u8 xb.m3, .int .u8 xb.m4, .int .u8 xb.m5, .int .i64 xb.key, .int .i64 xb.pp, .int .i64 xb.port, .int .i64 xb.st]) ∧ Below u.w.heap.size u.w w' from by
    rw [HXB.out]; exact told_any b (o + 24) (cap - 24) _ _ _ _ _ _ _ _ _ _ _ _ _ _ _ zs2 u.w (by omega) (hbu u) (by have := (KC u).drop 24; rw [HY2.out] at this; exact this))
  have HN3 := hide (fun u : Above v => show Calls Try.prog 54 #[.slice (some ⟨b, o + 44, none⟩) 66 (cap - 44)] u.w fun e w' => e = .returned (.int .i64 xd) ∧ Below u.w.heap.size u.w w' from by
    rw [HXD.out]; exact (refNum_any b (o + 44) 66 (cap - 44) d0 d1 zs3 u.w (by omega) (by have := (KC u).drop 44; rw [HY3.out] at this; exact this)).mono fun e w' h => ⟨h.1, h.2.1⟩)
  clear hAb KC hbu
  repeat (refine wpRise_step (fun K hK => ?_); simp only [Oper.rise]; go_simp; first | (refine hK _ ?_; clear hK K) | (apply Exists.intro; refine ⟨fun u => ?_, hK _ ?_⟩; (first | (go_at_call 53; first | with_reducible exact HN1.out u | with_reducible exact HN2.out u) | (go_at_call 54; with_reducible exact HN3.out u)); clear hK K))
  refine wpRise_nil ?_
  clear HN1 HN2 HN3 hN
  intro g u hu hg hr
  have HU := hide hu
  clear hu hv v
  simp only [Act.put, List.setIfInBounds_toArray, List.set_cons_succ, List.set_cons_zero, Nat.reduceAdd, List.drop_succ_cons, List.drop_zero, List.getElem_toArray, List.getElem_cons_succ, List.getElem_cons_zero]
  refine wpList_store_at rfl rfl g 0 #[.int .i64 xa.sp, .int .u8 xa.m0, .int .u8 xa.m1, .int .u8 xa.m2, .int .u8 xa.m3, .int .u8 xa.m4, .int .u8 xa.m5, .int .i64 xa.key, .int .i64 xa.pp, .int .i64 xa.port, .int .i64 xa.st, .int .i64 xb.sp, .int .u8 xb.m0, .int .u8 xb.m1, .int .u8 xb.m2, .int .u8 xb.m3, .int .u8 xb.m4, .int .u8 xb.m5, .int .i64 xb.key, .int .i64 xb.pp, .int .i64 xb.port, .int .i64 xb.st, .int .i64 xd] (by exact rfl) (by exact rfl) 27 hr (by kernel_rfl) (by simp) (lacp_ones xa xb xd) #[.int .i64 xa.sp, .int .u8 xa.m0, .int .u8 xa.m1, .int .u8 xa.m2, .int .u8 xa.m3, .int .u8 xa.m4, .int .u8 xa.m5, .int .i64 xa.key, .int .i64 xa.pp, .int .i64 xa.port, .int .i64 xa.st, .int .i64 xb.sp, .int .u8 xb.m0, .int .u8 xb.m1, .int .u8 xb.m2, .int .u8 xb.m3, .int .u8 xb.m4, .int .u8 xb.m5, .int .i64 xb.key, .int .i64 xb.pp, .int .i64 xb.port, .int .i64 xb.st, .int .i64 xd] rfl (fun u2 hf2 hb2 => ?_)
  have HB2 := hide hb2; have HU2 := hide (HB.out.trans ((HU.out.trans (hf2.below hg HU.out.size)).mono (Nat.le_of_lt hws)))
  have hws2 : w.heap.size < u2.heap.size := by have := (HU.out.trans (hf2.below hg HU.out.size)).size; omega
  have HZ2 := hide (show u2.heap[w.heap.size]? = some (.cells #[.int .i64 0, .int .u8 0, .int .u8 0, .int .u8 0, .int .u8 0, .int .u8 0, .int .u8 0, .int .i64 0, .int .i64 0, .int .i64 0, .int .i64 0, .int .i64 0, .int .u8 0, .int .u8 0, .int .u8 0, .int .u8 0, .int .u8 0, .int .u8 0, .int .i64 0, .int .i64 0, .int .i64 0, .int .i64 0, .int .i64 0] 27 (0, 0)) from ((HU.out.trans (hf2.below hg HU.out.size)).block w.heap.size hws).trans HW.out)
  have HS2 := hide (HS.out.below HU2.out (Nat.le_refl _))
  have hgl : g < u2.heap.size := (Array.getElem?_eq_some_iff.1 hb2).1
  clear hb2 hf2 hr HS HU HC HB HW
  simp only [Act.put]
  go_wp2_with (refine wpList_load_part rfl 27 (.tmp 4) rfl g 0 rfl 27 _ #[.int .i64 xa.sp, .int .u8 xa.m0, .int .u8 xa.m1, .int .u8 xa.m2, .int .u8 xa.m3, .int .u8 xa.m4, .int .u8 xa.m5, .int .i64 xa.key, .int .i64 xa.pp, .int .i64 xa.port, .int .i64 xa.st, .int .i64 xb.sp, .int .u8 xb.m0, .int .u8 xb.m1, .int .u8 xb.m2, .int .u8 xb.m3, .int .u8 xb.m4, .int .u8 xb.m5, .int .i64 xb.key, .int .i64 xb.pp, .int .i64 xb.port, .int .i64 xb.st, .int .i64 xd] (0, 0) _ HB2.out Try.underlying27 rfl (by kernel_rfl) rfl ?_)
  refine (refEncode_any xa xb xd u2 HF.out.1 HF.out.2.2.1).mono ?_
  rintro e w7 (⟨hok7, g7, c7, rfl, hown7, hb7⟩ | ⟨hok7, rfl, hb7⟩)
  rotate_left
  · rw [HOk.out] at hok7
    exact absurd hok7 (by decide)
  have s1 : (convert 29 9 (.slice (some ⟨g7, 0, none⟩) 110 c7)).run Try.prog w7 = .ok (.string ⟨(encL xa xb xd).toArray⟩) w7 := hown7.str (by decide)
  have s2 : (convert 29 9 (.slice (some ⟨b, o, none⟩) 110 cap)).run Try.prog w7 = .ok (.string ⟨ys.toArray⟩) w7 := by have := (HS2.out.below hb7 (Nat.le_of_lt hws2)).str; rwa [HL.out] at this
  have HW7 := hide (HU2.out.trans (hb7.mono (Nat.le_of_lt hws2)))
  have HZ7 := hide ((hb7.block w.heap.size hws2).trans HZ2.out)
  have HB7 := hide ((hb7.block g hgl).trans HB2.out)
  clear hown7 hb7 hok7 HS2 HZ2 HU2
  by_cases heq : encL xa xb xd = ys
  · have hst : (encL xa xb xd == ys) = true := by simp [heq]
    have HE := hide heq
    clear heq
    go_wp2_with (first | (refine wpList_load_part rfl 27 (.tmp 4) rfl g 0 rfl 27 _ #[.int .i64 xa.sp, .int .u8 xa.m0, .int .u8 xa.m1, .int .u8 xa.m2, .int .u8 xa.m3, .int .u8 xa.m4, .int .u8 xa.m5, .int .i64 xa.key, .int .i64 xa.pp, .int .i64 xa.port, .int .i64 xa.st, .int .i64 xb.sp, .int .u8 xb.m0, .int .u8 xb.m1, .int .u8 xb.m2, .int .u8 xb.m3, .int .u8 xb.m4, .int .u8 xb.m5, .int .i64 xb.key, .int .i64 xb.pp, .int .i64 xb.port, .int .i64 xb.st, .int .i64 xd] (0, 0) _ HB7.out Try.underlying27 rfl (by kernel_rfl) rfl ?_) | (refine wpList_store_at rfl rfl w.heap.size 0 #[.int .i64 xa.sp, .int .u8 xa.m0, .int .u8 xa.m1, .int .u8 xa.m2, .int .u8 xa.m3, .int .u8 xa.m4, .int .u8 xa.m5, .int .i64 xa.key, .int .i64 xa.pp, .int .i64 xa.port, .int .i64 xa.st, .int .i64 xb.sp, .int .u8 xb.m0, .int .u8 xb.m1, .int .u8 xb.m2, .int .u8 xb.m3, .int .u8 xb.m4, .int .u8 xb.m5, .int .i64 xb.key, .int .i64 xb.pp, .int .i64 xb.port, .int .i64 xb.st, .int .i64 xd] rfl rfl 27 HZ7.out (by kernel_rfl) (by simp) (lacp_ones xa xb xd) #[.int .i64 xa.sp, .int .u8 xa.m0, .int .u8 xa.m1, .int .u8 xa.m2, .int .u8 xa.m3, .int .u8 xa.m4, .int .u8 xa.m5, .int .i64 xa.key, .int .i64 xa.pp, .int .i64 xa.port, .int .i64 xa.st, .int .i64 xb.sp, .int .u8 xb.m0, .int .u8 xb.m1, .int .u8 xb.m2, .int .u8 xb.m3, .int .u8 xb.m4, .int .u8 xb.m5, .int .i64 xb.key, .int .i64 xb.pp, .int .i64 xb.port, .int .i64 xb.st, .int .i64 xd] rfl ?_; intro u8 hf8 hb8; have HB8 := hide hb8; have HF8 := hide hf8; clear hf8 hb8))
    (try simp only [Exit.inBlock, Exit.then])
    obtain ⟨k1, k2, k3, k4, k5⟩ := HF.out
    refine bodyPost_ret (res_lacp rfl _ _ w.heap.size _ (0, 0) rfl HB8.out rfl) rfl (.inl ⟨xa, xb, xd, k1, k2, k3, k4, k5, HE.out.symm, rfl, HW7.out.trans (HF8.out.below (Nat.le_refl _) HW7.out.size)⟩)
  · have hst : (encL xa xb xd == ys) = false := by simp [heq]
    have HE := hide (show ¬ WholeAt ys from fun h => heq (HWh.out h))
    clear heq
    go_wp2_with (refine wpList_store_at rfl rfl w.heap.size 0 #[.int .i64 0, .int .u8 0, .int .u8 0, .int .u8 0, .int .u8 0, .int .u8 0, .int .u8 0, .int .i64 0, .int .i64 0, .int .i64 0, .int .i64 0, .int .i64 0, .int .u8 0, .int .u8 0, .int .u8 0, .int .u8 0, .int .u8 0, .int .u8 0, .int .i64 0, .int .i64 0, .int .i64 0, .int .i64 0, .int .i64 0] rfl rfl 27 HZ7.out (by kernel_rfl) (by simp) (by simp [Value.oneCell']) #[.int .i64 0, .int .u8 0, .int .u8 0, .int .u8 0, .int .u8 0, .int .u8 0, .int .u8 0, .int .i64 0, .int .i64 0, .int .i64 0, .int .i64 0, .int .i64 0, .int .u8 0, .int .u8 0, .int .u8 0, .int .u8 0, .int .u8 0, .int .u8 0, .int .i64 0, .int .i64 0, .int .i64 0, .int .i64 0, .int .i64 0] rfl ?_; intro u8 hf8 hb8; have HB8 := hide hb8; have HF8 := hide hf8; clear hf8 hb8)
    (try simp only [Exit.inBlock, Exit.then])
    refine bodyPost_ret (res_lacp rfl _ _ w.heap.size _ (0, 0) rfl HB8.out rfl) rfl (.inr ⟨HE.out, rfl, HW7.out.trans (HF8.out.below (Nat.le_refl _) HW7.out.size)⟩)
end Go.Proofs.Ytooieocfgifpgaa

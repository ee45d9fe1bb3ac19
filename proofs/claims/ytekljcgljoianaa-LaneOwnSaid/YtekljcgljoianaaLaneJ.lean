/-
  How the arguments of the lane's laws open.
-/
import Derived.Test.YtekljcgljoianaaLaneI
import Derived.ChangeSame
namespace Go.Proofs.Ytekljcgljoianaa
open Go.RowKit Go.WideShapes Go.ChangeShapes
set_option linter.unusedVariables false

theorem readable36 : Try.prog.readableRec 36 = true ∧ 36 < Try.prog.types.size := ⟨by kernel_rfl, of_decide_eq_true (by kernel_rfl)⟩
theorem readable29 : Try.prog.readableRec 29 = true ∧ 29 < Try.prog.types.size := ⟨by kernel_rfl, of_decide_eq_true (by kernel_rfl)⟩
theorem readable22 : Try.prog.readableRec 22 = true ∧ 22 < Try.prog.types.size := ⟨by kernel_rfl, of_decide_eq_true (by kernel_rfl)⟩
theorem readable3 : Try.prog.readableRec 3 = true ∧ 3 < Try.prog.types.size := ⟨by kernel_rfl, of_decide_eq_true (by kernel_rfl)⟩
theorem cells38 : Try.prog.cellsOf 38 = 2 := by kernel_rfl
theorem cells5 : Try.prog.cellsOf 5 = 1 := by kernel_rfl
theorem cells29 : Try.prog.cellsOf 29 = 1 := by kernel_rfl
theorem cells3 : Try.prog.cellsOf 3 = 1 := by kernel_rfl
theorem cells9 : Try.prog.cellsOf 9 = 1 := by kernel_rfl
theorem bytes5 : Try.prog.bytesOf 5 = 1 := by kernel_rfl

theorem open_i64 {w : World} {r : Reach} {base : Nat} {v : Value} (hv : Value.okWide Try.prog w r base 3 v) : ∃ n : Int, v = .int .i64 n ∧ (-9223372036854775808 ≤ n ∧ n ≤ 9223372036854775807) := by
  obtain ⟨n, rfl, hw⟩ := cell_int (w := w) (r := r) (base := base) Try.underlying3 (by simpa [Value.okWide, Try.underlying3] using hv)
  exact ⟨n, rfl, wf_i64 hw⟩

/-- What lies at or behind B. -/
def From (B : Nat) (k : Nat) : Prop := B ≤ k
theorem chg_from {B : Nat} {w w' : World} (h : Below B w w') : Chg (From B) w w' := ⟨h.os, h.tape, h.output, h.size, fun k hk hx => h.block k (by unfold From at hx; omega)⟩
theorem RowAt.weaken {w : World} {X Y : Nat → Prop} {v : Value} {l : List UInt8} (h : RowAt w X v l) (hs : ∀ k, Y k → X k) : RowAt w Y v l := by
  obtain ⟨A, cap, rfl, hl, hA, h⟩ := h
  refine ⟨A, cap, rfl, hl, hA, ?_⟩
  rcases h with h | ⟨ad, rfl, hb, h⟩
  · exact .inl h
  · exact .inr ⟨ad, rfl, fun hy => hb (hs _ hy), h⟩

theorem cellA_lt {w : World} {a : Addr} {v : Value} (h : w.cell? a = some v) : a.block < w.heap.size := by
  unfold World.cell? at h
  by_cases hb : a.block < w.heap.size
  · exact hb
  · simp [show w.heap[a.block]? = none from Array.getElem?_eq_none (by omega)] at h

/-- A reading of a row of bytes. -/
theorem open_row {H : Type} {enc : TypeId × Value → H} {w : World} {fuel : Nat} {v : Value} {x : DataW H × List MemPlace} (hT : DataW.trod enc Try.prog w 0 (fun _ => true) true fuel 29 [v] = some x) :
    ∃ b : List UInt8, RowAt w (From w.heap.size) v b ∧ (b = [] ∨ ∃ elems spare, x.1 = .slice elems spare ∧ elems.length = b.length) := by
  rcases Go.Deep.open_slice1 Try.underlying29 cells5 hT with ⟨h0, _⟩ | ⟨a, len, cap, m, q, V, D, Pl, h0, _, hl, hm, hmm, rfl, hel⟩
  · injection h0 with h0 _
    subst h0
    exact ⟨[], ⟨none, 0, rfl, by simp, by simp, .inl rfl⟩, .inl rfl⟩
  · injection h0 with h0 _
    subst h0
    simp at hmm
    have hmx : maxLen = 9223372036854775807 := rfl
    obtain ⟨K, hK⟩ := Go.Deep.choose_lt (α := Int) (n := len) (p := fun i k => w.cell? (a.add i) = some (.int .u8 k) ∧ 0 ≤ k ∧ k < 256) (fun i hi => by
      obtain ⟨h1, h2⟩ := hel i (by omega)
      obtain ⟨k, hk, _, hw⟩ := DataW.trod_int Try.underlying5 h2
      injection hk with hk _
      rw [hk] at h1
      exact ⟨k, h1, wf_u8 hw⟩)
    have hlen : ((List.range len).map fun i => UInt8.ofNat (K i).toNat).length = len := by simp
    refine ⟨(List.range len).map fun i => UInt8.ofNat (K i).toNat, ⟨some a, cap, by rw [hlen], by rw [hlen]; omega, by simp, ?_⟩, .inr ⟨_, _, rfl, by simp⟩⟩
    by_cases h0 : len = 0
    · subst h0; exact .inl rfl
    · refine .inr ⟨a, rfl, ?_, fun i hi => ?_⟩
      · have := cellA_lt (hK 0 (by omega)).1
        rw [block_add] at this
        unfold From
        omega
      · have hi' : i < len := by simpa using hi
        rw [(hK i hi').1]
        have hk := (hK i hi').2
        simp
        omega

theorem weightsAll_mem {H : Type} {P : Program} {e : TypeId} : ∀ {ds : List (DataW H)} {d : DataW H}, d ∈ ds → ∀ n ∈ d.weights P e, n ∈ DataW.weightsAll P e ds
  | [], d, hd, _, _ => by simp at hd
  | d0 :: ds, d, hd, n, hn => by
    simp only [DataW.weightsAll, List.mem_append]
    rcases List.mem_cons.1 hd with rfl | h
    · exact .inl hn
    · exact .inr (weightsAll_mem h n hn)

/-- A step that is told. -/
structure LSt where
  d : Int
  b : List UInt8
instance : Inhabited LSt := ⟨⟨0, []⟩⟩
def LStepAt (w : World) (B b o : Nat) (x : LSt) : Prop :=
  w.cell? ⟨b, o, none⟩ = some (.int .i64 x.d) ∧ (-9223372036854775808 ≤ x.d ∧ x.d ≤ 9223372036854775807) ∧ x.b.length ≤ 140737488355328 ∧ ∃ A c, w.cell? ⟨b, o + 1, none⟩ = some (.slice A x.b.length c) ∧ RowAt w (From B) (.slice A x.b.length c) x.b
def LStepsAt (w : World) (B : Nat) (A : Option Addr) (n : Nat) (L : Nat → LSt) : Prop :=
  n ≤ 9223372036854775807 ∧ ∀ i, i < n → ∃ b o, A = some ⟨b, o, none⟩ ∧ b < B ∧ LStepAt w B b (o + i * 2) (L i)
theorem LStepsAt.below {w w' : World} {B : Nat} {A : Option Addr} {n : Nat} {L : Nat → LSt} (h : LStepsAt w B A n L) (hb : Below B w w') : LStepsAt w' B A n L :=
  ⟨h.1, fun i hi => by
    obtain ⟨b, o, hA, hlt, h1, h2, h3, A', c, h4, h5⟩ := h.2 i hi
    exact ⟨b, o, hA, hlt, (hb.cell (by exact hlt)).trans h1, h2, h3, A', c, (hb.cell (by exact hlt)).trans h4, h5.chg (chg_from hb)⟩⟩

theorem open_lsteps {H : Type} {enc : TypeId × Value → H} {w : World} {r : Reach} {base : Nat} {v : Value} {d : DataW H} {ps : List MemPlace} {ts : List TypeId} {ds : List (DataW H)} {j : Nat} (hv : Value.okWide Try.prog w r base 36 v)
    (hT : DataW.Trod enc Try.prog w 0 (fun _ => true) true 36 v d ps) (hsz : (DataW.weightsEach Try.prog ts ds).all (· ≤ reachBytes) = true) (ht : ts[j]? = some 36) (hd : ds[j]? = some d) :
    ∃ A n cap L, v = .slice A n cap ∧ LStepsAt w w.heap.size A n L := by
  obtain ⟨fuel, hT⟩ := hT
  have hmax : IntKind.i64.max = 9223372036854775807 := rfl
  have hreach := reachBytes_lt
  obtain ⟨A, n, cap, rfl⟩ := okWide_slice Try.underlying36 hv
  simp only [Value.okWide, Try.underlying36, Cell.okWide] at hv
  rcases Go.Deep.open_slice Try.underlying36 (show DataW.trod enc Try.prog w 0 (fun _ => true) true fuel 36 [.slice A n cap] = some (d, ps) from hT) with ⟨h0, _⟩ | ⟨a, len, cap', m, q, D, Pl, h0, _, hl, hm, hmm, hx, hel⟩
  · injection h0 with h0 _
    injection h0 with h1 h2 h3
    subst h1 h2 h3
    exact ⟨none, 0, 0, default, rfl, by omega, fun i hi => by omega⟩
  · injection h0 with h0 _
    injection h0 with h1 h2 h3
    subst h1 h2 h3
    simp only [Cell.ok, Try.underlying36] at hv
    obtain ⟨_, hcap, _, hspot, _⟩ := hv
    obtain ⟨b, o, sp⟩ := a
    simp at hspot
    subst hspot
    simp at hmm
    rw [cells38] at hel
    injection hx with hx1 hx2
    obtain ⟨L, hL⟩ := Go.Deep.choose_lt (α := LSt) (n := n) (p := fun i x => b < w.heap.size ∧ LStepAt w w.heap.size b (o + i * 2) x) (fun i hi => by
      obtain ⟨cs, h1, h2⟩ := hel i (by omega)
      obtain ⟨hb1, hlen, hcell⟩ := World.cells?_some h1
      obtain ⟨y0, y1, k, hy, _, t0, t1⟩ := trod_struct2 Try.underlying38 h2
      match cs, hlen with
      | [u0, u1], _ =>
        rw [cells3] at t0
        rw [cells29] at t1
        obtain ⟨e, he, _, hw⟩ := DataW.trod_int Try.underlying3 (show DataW.trod enc Try.prog w 0 (fun _ => true) true k 3 [u0] = some y0 from t0)
        injection he with he _
        subst he
        obtain ⟨bs, hrow, hbs⟩ := open_row (show DataW.trod enc Try.prog w 0 (fun _ => true) true k 29 [u1] = some y1 from t1)
        obtain ⟨A', c', hform⟩ := hrow.form
        subst hform
        have g0 := hcell 0 (by omega)
        have g1 := hcell 1 (by omega)
        rw [Go.Deep.add_add, add_none] at g0 g1
        refine ⟨⟨e, bs⟩, cell_lt g0, g0, wf_i64 hw, ?_, A', c', g1, hrow⟩
        show bs.length ≤ 140737488355328
        rcases hbs with rfl | ⟨elems, spare, he, hl2⟩
        · simp
        · have hmem : (elems.length + spare.length) * Try.prog.bytesOf 5 ∈ DataW.weightsEach Try.prog ts ds := DataW.weights_mem_each ht hd _ (by
            rw [hx1]
            simp only [DataW.weights, Try.underlying36, List.mem_cons, List.mem_append]
            refine Or.inr (Or.inl (weightsAll_mem (d := D i) (List.mem_map.2 ⟨i, by simpa using hi, rfl⟩) _ ?_))
            have hD : D i = .agg [y0.1, y1.1] := by injection hy
            rw [hD, he]
            simp [DataW.weights, Try.underlying38, DataW.weightsEach, Try.underlying29])
          have := of_decide_eq_true (List.all_eq_true.1 hsz _ hmem)
          rw [bytes5] at this
          omega)
    exact ⟨_, n, cap, L, rfl, by omega, fun i hi => ⟨b, o, rfl, hL i hi⟩⟩
end Go.Proofs.Ytekljcgljoianaa

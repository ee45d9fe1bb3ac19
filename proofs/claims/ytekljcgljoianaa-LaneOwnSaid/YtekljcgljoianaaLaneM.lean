/-
  How a slice of strings opens, and '[]byte(s)'.
-/
import Derived.Test.YtekljcgljoianaaLaneK
namespace Go.Proofs.Ytekljcgljoianaa
open Go.RowKit Go.WideShapes Go.ChangeShapes
set_option linter.unusedVariables false

def LStrsAt (w : World) (B : Nat) (A : Option Addr) (n : Nat) (S : Nat → List UInt8) : Prop :=
  n ≤ 9223372036854775807 ∧ ∀ i, i < n → ∃ b o, A = some ⟨b, o, none⟩ ∧ b < B ∧ w.cell? ⟨b, o + i, none⟩ = some (.string ⟨(S i).toArray⟩) ∧ (S i).length ≤ 140737488355328
theorem LStrsAt.below {w w' : World} {B : Nat} {A : Option Addr} {n : Nat} {S : Nat → List UInt8} (h : LStrsAt w B A n S) (hb : Below B w w') : LStrsAt w' B A n S :=
  ⟨h.1, fun i hi => by
    obtain ⟨b, o, hA, hlt, h1, h2⟩ := h.2 i hi
    exact ⟨b, o, hA, hlt, (hb.cell (by exact hlt)).trans h1, h2⟩⟩

theorem open_lstrs {H : Type} {enc : TypeId × Value → H} {w : World} {r : Reach} {base : Nat} {v : Value} {d : DataW H} {ps : List MemPlace} {ts : List TypeId} {ds : List (DataW H)} {j : Nat} (hv : Value.okWide Try.prog w r base 22 v)
    (hT : DataW.Trod enc Try.prog w 0 (fun _ => true) true 22 v d ps) (hsz : (DataW.weightsEach Try.prog ts ds).all (· ≤ reachBytes) = true) (ht : ts[j]? = some 22) (hd : ds[j]? = some d) :
    ∃ A n cap S, v = .slice A n cap ∧ LStrsAt w w.heap.size A n S := by
  obtain ⟨fuel, hT⟩ := hT
  have hmax : IntKind.i64.max = 9223372036854775807 := rfl
  have hreach := reachBytes_lt
  obtain ⟨A, n, cap, rfl⟩ := okWide_slice Try.underlying22 hv
  simp only [Value.okWide, Try.underlying22, Cell.okWide] at hv
  rcases Go.Deep.open_slice1 Try.underlying22 cells9 (show DataW.trod enc Try.prog w 0 (fun _ => true) true fuel 22 [.slice A n cap] = some (d, ps) from hT) with ⟨h0, _⟩ | ⟨a, len, cap', m, q, V, D, Pl, h0, _, hl, hm, hmm, hx, hel⟩
  · injection h0 with h0 _
    injection h0 with h1 h2 h3
    subst h1 h2 h3
    exact ⟨none, 0, 0, fun _ => [], rfl, by omega, fun i hi => by omega⟩
  · injection h0 with h0 _
    injection h0 with h1 h2 h3
    subst h1 h2 h3
    simp only [Cell.ok, Try.underlying22] at hv
    obtain ⟨_, hcap, _, hspot, _⟩ := hv
    obtain ⟨b, o, sp⟩ := a
    simp at hspot
    subst hspot
    simp at hmm
    injection hx with hx1 hx2
    obtain ⟨S, hS⟩ := Go.Deep.choose_lt (α := List UInt8) (n := n) (p := fun i x => b < w.heap.size ∧ w.cell? ⟨b, o + i, none⟩ = some (.string ⟨x.toArray⟩) ∧ x.length ≤ 140737488355328) (fun i hi => by
      obtain ⟨h1, h2⟩ := hel i (by omega)
      obtain ⟨s, hs, hD, _⟩ := DataW.trod_string Try.underlying9 h2
      injection hs with hs _
      rw [add_none, hs] at h1
      refine ⟨s.data.toList, cell_lt h1, by simpa using h1, ?_⟩
      have hD' : D i = .lit (.string s.data.toList) := by injection hD
      have hmem : s.data.toList.length ∈ DataW.weightsEach Try.prog ts ds := DataW.weights_mem_each ht hd _ (by
        rw [hx1]
        simp only [DataW.weights, Try.underlying22, List.mem_cons, List.mem_append]
        refine Or.inr (Or.inl (weightsAll_mem (d := D i) (List.mem_map.2 ⟨i, by simpa using hi, rfl⟩) _ ?_))
        rw [hD']
        simp [DataW.weights])
      have := of_decide_eq_true (List.all_eq_true.1 hsz _ hmem)
      omega)
    exact ⟨_, n, cap, S, rfl, by omega, fun i hi => ⟨b, o, rfl, hS i hi⟩⟩

/-- '[]byte(s)'. -/
theorem convert_str (w : World) (l : List UInt8) : ∃ c u, (convert 9 29 (.string ⟨l.toArray⟩)).run Try.prog w = .ok (.slice (some ⟨w.heap.size, 0, none⟩) l.length c) u ∧ Below w.heap.size w u ∧ u.heap.size = w.heap.size + 1 ∧ (∀ X : Nat → Prop, ¬ X w.heap.size → l.length ≤ 9223372036854775807 → RowAt u X (.slice (some ⟨w.heap.size, 0, none⟩) l.length c) l) := by
  have h := run_bytes_of_string (P := Try.prog) w 9 29 5 ⟨l.toArray⟩ Try.underlying9 Try.underlying29 Try.underlying5
  have hsz : (⟨l.toArray⟩ : ByteArray).size = l.length := by simp [ByteArray.size]
  rw [hsz] at h
  refine ⟨_, _, h, ((Below.refl _ _).drew).alloc (Nat.le_refl _) _, by simp, fun X hX hl => ⟨_, _, rfl, hl, by simp, .inr ⟨⟨w.heap.size, 0, none⟩, rfl, hX, fun i hi => ?_⟩⟩⟩
  rw [add_none, Nat.zero_add]
  have := World.cell?_alloc_mark w.drew (bytesRow ⟨l.toArray⟩ (grownCap w l.length 0 5)) 5 ((bytesRow ⟨l.toArray⟩ (grownCap w l.length 0 5)).size, (bytesRow ⟨l.toArray⟩ (grownCap w l.length 0 5)).size + 1) i
  refine Eq.trans this ?_
  rw [bytesRow_at _ _ i (by simpa using hi)]
  simp
end Go.Proofs.Ytekljcgljoianaa

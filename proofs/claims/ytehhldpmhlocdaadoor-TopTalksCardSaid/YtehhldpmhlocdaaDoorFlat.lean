/-
  A reading that trod through cells of numbers, bools and strings tells each cell's kind: whatever the nesting of structs and arrays. And an argument that is such a struct, by its outer form.
-/
import Derived.Test.YtehhldpmhlocdaaDoorBase
import Derived.Deep.Slices
import Derived.OpenShut
namespace Go.Proofs.YtehhldpmhlocdaaDoor
open Go.RowKit Go.WideShapes Go.ChangeShapes

inductive CK | bool | int (k : IntKind) | str
def CK.fits : CK → Value → Prop
  | .bool, v => ∃ b, v = .bool b
  | .int k, v => ∃ n, v = .int k n ∧ (Lit.int k n).wf = true
  | .str, v => ∃ s : ByteArray, v = .string s ∧ s.size ≤ 9223372036854775807

/-- The kind of cell i of a type. -/
def cellKind (P : Program) : Nat → TypeId → Nat → Option CK
  | 0, _, _ => none
  | n + 1, t, i => match P.underlying t with
    | some .bool => if i = 0 then some .bool else none
    | some (.int k) => if i = 0 then some (.int k) else none
    | some .string => if i = 0 then some .str else none
    | some (.array m e) => if i / P.cellsOf e < m ∧ i % P.cellsOf e < P.cellsOf e then cellKind P n e (i % P.cellsOf e) else none
    | some (.struct fs) => fs.toList.findSome? fun f => if f.offset ≤ i ∧ i - f.offset < P.cellsOf f.type then cellKind P n f.type (i - f.offset) else none
    | _ => none

theorem trod_cell {H : Type} {enc : TypeId × Value → H} {P : Program} {w : World} {base : Nat} {spare : Nat → Bool} {held : Bool} : ∀ (f : Nat) (t : TypeId) (i : Nat) (k : CK) (fuel : Nat) (cs : List Value) (x : DataW H × List MemPlace),
    cellKind P f t i = some k → DataW.trod enc P w base spare held fuel t cs = some x → ∃ v, cs[i]? = some v ∧ k.fits v := by
  intro f
  induction f with
  | zero => intro t i k fuel cs x h; simp [cellKind] at h
  | succ n ih =>
    intro t i k fuel cs x h hx
    unfold cellKind at h
    split at h
    · rename_i hu
      split at h
      · injection h with h; subst h
        obtain ⟨b, rfl, _⟩ := DataW.trod_bool hu hx
        subst_vars
        exact ⟨_, rfl, b, rfl⟩
      · simp at h
    · rename_i k' hu
      split at h
      · injection h with h; subst h
        obtain ⟨m, rfl, _, hw⟩ := DataW.trod_int hu hx
        subst_vars
        exact ⟨_, rfl, m, rfl, hw⟩
      · simp at h
    · rename_i hu
      split at h
      · injection h with h; subst h
        obtain ⟨s, rfl, _, hw⟩ := DataW.trod_string hu hx
        subst_vars
        exact ⟨_, rfl, s, rfl, by have : maxLen = 9223372036854775807 := rfl; omega⟩
      · simp at h
    · rename_i m e hu
      split at h
      · rename_i hc
        obtain ⟨xs, q, rfl, rfl, hl, hlen, hel⟩ := DataW.trod_array hu hx
        have h1 := hel (i / P.cellsOf e) hc.1
        rw [List.getElem?_eq_getElem (by omega)] at h1
        obtain ⟨v, hv, hk⟩ := ih e _ k q _ _ h h1
        refine ⟨v, ?_, hk⟩
        rw [List.getElem?_take_of_lt hc.2, List.getElem?_drop] at hv
        rwa [show i / P.cellsOf e * P.cellsOf e + i % P.cellsOf e = i by rw [Nat.mul_comm]; exact Nat.div_add_mod _ _] at hv
      · simp at h
    · rename_i fs hu
      obtain ⟨fl, hmem, hf⟩ := List.exists_of_findSome?_eq_some h
      split at hf
      · rename_i hc
        obtain ⟨j, hj, hje⟩ := List.getElem_of_mem hmem
        obtain ⟨xs, q, rfl, rfl, hl, hlen, hel⟩ := DataW.trod_struct hu hx
        have h1 := hel j fl (by simp at hj; rw [Array.getElem?_eq_getElem hj]; simpa using hje)
        rw [List.getElem?_eq_getElem (by simp at hj; omega)] at h1
        obtain ⟨v, hv, hk⟩ := ih _ _ k q _ _ hf h1
        refine ⟨v, ?_, hk⟩
        rw [List.getElem?_take_of_lt hc.2, List.getElem?_drop] at hv
        rwa [show fl.offset + (i - fl.offset) = i by omega] at hv
      · simp at hf
    · simp at h

theorem cellAt_of_add {w : World} {b o : Nat} (i : Nat) {v : Value} (h : w.cell? ((⟨b, o, none⟩ : Addr).add i) = some v) : w.cell? ⟨b, o + i, none⟩ = some v := by
  unfold Addr.add at h
  by_cases hi : i = 0
  · subst hi; simpa using h
  · simpa [hi] using h

theorem cell_lt {w : World} {b o : Nat} {v : Value} (h : w.cell? ⟨b, o, none⟩ = some v) : b < w.heap.size := by
  unfold World.cell? at h
  by_cases hb : b < w.heap.size
  · exact hb
  · simp [show w.heap[b]? = none from Array.getElem?_eq_none (by omega)] at h

/-- A slice argument of flat elements: every element's every cell, by its kind. -/
theorem open_flats {H : Type} {enc : TypeId × Value → H} {P : Program} {w : World} {t e : TypeId} {r : Reach} {base : Nat} {v : Value} {d : DataW H} {ps : List MemPlace} (hu : P.underlying t = some (.slice e)) (hv : Value.okWide P w r base t v)
    (hT : DataW.Trod enc P w 0 (fun _ => true) true t v d ps) : ∃ A n cap, v = .slice A n cap ∧ n ≤ 9223372036854775807 ∧ (n = 0 ∨ ∃ b o, A = some ⟨b, o, none⟩ ∧
      ∀ i, i < n → ∀ f j k, j < P.cellsOf e → cellKind P f e j = some k → ∃ u, w.cell? ⟨b, o + i * P.cellsOf e + j, none⟩ = some u ∧ k.fits u) := by
  obtain ⟨fuel, hT⟩ := hT
  have hmax : IntKind.i64.max = 9223372036854775807 := rfl
  obtain ⟨A, n, cap, rfl⟩ := okWide_slice hu hv
  refine ⟨A, n, cap, rfl, ?_⟩
  simp only [Value.okWide, hu, Cell.okWide] at hv
  rcases Go.Deep.open_slice hu (show DataW.trod enc P w 0 (fun _ => true) true fuel t [.slice A n cap] = some (d, ps) from hT) with ⟨h0, _⟩ | ⟨a, len, cap', m, q, D, Pl, h0, _, hl, hm, hmm, _, hel⟩
  · injection h0 with h0 _
    injection h0 with h1 h2 h3
    subst h2
    exact ⟨by omega, .inl rfl⟩
  · injection h0 with h0 _
    injection h0 with h1 h2 h3
    subst h1 h2 h3
    simp only [Cell.ok, hu] at hv
    obtain ⟨_, hcap, _, hspot, _⟩ := hv
    have hn : n ≤ 9223372036854775807 := by rw [hmax] at hcap; omega
    obtain ⟨b, o, sp⟩ := a
    simp at hspot
    subst hspot
    refine ⟨hn, .inr ⟨b, o, rfl, fun i hi f j k hj hk => ?_⟩⟩
    simp at hmm
    obtain ⟨cs', h1, h2⟩ := hel i (by omega)
    obtain ⟨u, hu', hfit⟩ := trod_cell f e j k q cs' _ hk h2
    refine ⟨u, ?_, hfit⟩
    have h3 := (World.cells?_some h1).2.2 j hj
    rw [Go.Deep.add_add, hu'] at h3
    rw [Nat.add_assoc]
    exact cellAt_of_add _ h3
end Go.Proofs.YtehhldpmhlocdaaDoor

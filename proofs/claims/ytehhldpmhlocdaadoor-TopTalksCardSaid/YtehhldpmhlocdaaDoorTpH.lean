/-
  The best of some is one; where another is taken away it stays.
-/
import Derived.Test.YtehhldpmhlocdaaDoorTpG
namespace Go.Proofs.YtehhldpmhlocdaaDoor
open Go.RowKit
set_option linter.unusedVariables false

theorem or2_cmp {p q a b : Int} : 0 < or2 (cmp3 p q) (cmp3 b a) ↔ q < p ∨ (p = q ∧ a < b) := by
  unfold or2 cmp3
  by_cases h1 : p < q
  · simp [h1]; omega
  · by_cases h2 : q < p
    · simp [h1, h2]
    · have h3 : p = q := by omega
      subst h3
      by_cases h4 : b < a
      · simp [h4]; omega
      · by_cases h5 : a < b
        · simp [h4, h5]
        · simp [h4, h5]
theorem better_pos (h a b : Int) : 0 < better h a b ↔ weigh h b < weigh h a ∨ (weigh h a = weigh h b ∧ a < b) := by
  unfold better
  exact or2_cmp
/-- None of them is better. -/
def Tops (h m : Int) (L : List Int) : Prop := ∀ y ∈ L, ¬ 0 < better h y m
theorem tops_one {h a b : Int} (h1 : ¬ 0 < better h a b) (h2 : ¬ 0 < better h b a) : a = b := by
  rw [better_pos] at h1 h2
  generalize weigh h a = p at h1 h2
  generalize weigh h b = q at h1 h2
  omega
theorem better_trans {h a b c : Int} (h1 : ¬ 0 < better h a b) (h2 : 0 < better h c b) : ¬ 0 < better h a c := by
  rw [better_pos] at h1 h2 ⊢
  generalize weigh h a = p at h1 h2 ⊢
  generalize weigh h b = q at h1 h2 ⊢
  generalize weigh h c = r at h1 h2 ⊢
  omega
theorem better_self (h a : Int) : ¬ 0 < better h a a := by
  rw [better_pos]
  omega
theorem bestF_cons (h m y : Int) (L : List Int) : bestF h m (y :: L) = bestF h (if 0 < better h y m then y else m) L := by
  unfold bestF
  rw [List.foldl_cons]
theorem bestF_spec (h : Int) : ∀ (L : List Int) (m : Int), (bestF h m L = m ∨ bestF h m L ∈ L) ∧ ¬ 0 < better h m (bestF h m L) ∧ Tops h (bestF h m L) L
  | [], m => ⟨.inl rfl, better_self h m, fun y hy => by cases hy⟩
  | y :: L, m => by
    rw [bestF_cons]
    by_cases hp : 0 < better h y m
    · rw [if_pos hp]
      obtain ⟨h1, h2, h3⟩ := bestF_spec h L y
      refine ⟨.inr ?_, ?_, ?_⟩
      · rcases h1 with h1 | h1
        · rw [h1]; exact List.mem_cons_self
        · exact List.mem_cons_of_mem _ h1
      · by_cases hq : 0 < better h m (bestF h y L)
        · exfalso
          revert h2 hp hq
          rw [better_pos, better_pos, better_pos]
          generalize weigh h (bestF h y L) = r
          generalize bestF h y L = c
          generalize weigh h m = p
          generalize weigh h y = q
          omega
        · exact hq
      · intro z hz
        rcases List.mem_cons.1 hz with rfl | hz
        · exact h2
        · exact h3 z hz
    · rw [if_neg hp]
      obtain ⟨h1, h2, h3⟩ := bestF_spec h L m
      refine ⟨?_, h2, ?_⟩
      · rcases h1 with h1 | h1
        · exact .inl h1
        · exact .inr (List.mem_cons_of_mem _ h1)
      · intro z hz
        rcases List.mem_cons.1 hz with rfl | hz
        · intro hq
          revert h2 hp hq
          rw [better_pos, better_pos, better_pos]
          generalize weigh h (bestF h m L) = r
          generalize bestF h m L = c
          generalize weigh h m = p
          generalize weigh h z = q
          omega
        · exact h3 z hz
theorem chooseF_spec (h : Int) (L : List Int) (hL : L ≠ []) : chooseF h L ∈ L ∧ Tops h (chooseF h L) L := by
  match L, hL with
  | x :: L, _ =>
    obtain ⟨h1, h2, h3⟩ := bestF_spec h L x
    refine ⟨?_, ?_⟩
    · show bestF h x L ∈ x :: L
      rcases h1 with h1 | h1
      · rw [h1]; exact List.mem_cons_self
      · exact List.mem_cons_of_mem _ h1
    · intro z hz
      show ¬ 0 < better h z (bestF h x L)
      rcases List.mem_cons.1 hz with rfl | hz
      · exact h2
      · exact h3 z hz
/-- Where another one is taken away it stays. -/
theorem choose_stays (h d : Int) (L : List Int) (hL : L ≠ []) (hd : chooseF h L ≠ d) : chooseF h (L.filter fun y => decide (y ≠ d)) = chooseF h L := by
  obtain ⟨h1, h2⟩ := chooseF_spec h L hL
  have hm : chooseF h L ∈ L.filter fun y => decide (y ≠ d) := List.mem_filter.2 ⟨h1, by simpa using hd⟩
  have hne : (L.filter fun y => decide (y ≠ d)) ≠ [] := fun e => by rw [e] at hm; cases hm
  obtain ⟨k1, k2⟩ := chooseF_spec h _ hne
  exact tops_one (h2 _ (List.mem_filter.1 k1).1) (k2 _ hm)
end Go.Proofs.YtehhldpmhlocdaaDoor

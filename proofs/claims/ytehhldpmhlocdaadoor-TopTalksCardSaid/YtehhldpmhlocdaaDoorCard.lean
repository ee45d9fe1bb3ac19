/-
  Proved: TopTalks: frames of one talk, as bytes and read again, go over one link of some that are up, whatever they tell; where another link goes down they stay; the law answers true. The tied card.
  No condition.
-/
import Derived.Test.YtehhldpmhlocdaaDoorTpJ
import Derived.Test.YtehhldpmhlocdaaDoorCards
import Derived.Test.YtehhldpmhlocdaaDoorTie
import Derived.SevenTiedAt
namespace Go.Proofs.YtehhldpmhlocdaaDoor
open Go

theorem topTalks_card : Rows.TopTalksCardSaid :=
  Claim7.holds_tied_plain_at .later [] [.sentinel] true (true, "8d90d7c6ef1d7936ea9058835dfd4192a8883f693b8c0b954657bed89c12cd21") true
    topTalks_said (fun _ h => by cases h) (by kernel_rfl) (fun _ h => by cases h) topTalks_row_tie rfl ⟨rfl, rfl⟩ (by kernel_rfl) rfl
    (fun f fn hf hfn => by
      obtain rfl : f = 3 := Option.some.inj ((show Tryd.prog.funcNamed Rows.topTalksRow.func = some 3 by kernel_rfl).symm.trans hf) |>.symm
      obtain rfl : fn = Tryd.f3 := (Option.some.inj (Tryd.func3.symm.trans hfn)).symm
      exact ⟨by kernel_rfl, fun j t ht => by
        rw [Tryd.params3] at ht
        have hm : t ∈ [26, 24, 27] := by simpa using Array.mem_of_getElem? ht
        have hall : ([26, 24, 27].all fun u => !Tryd.prog.wantsStandIn u) = true := by kernel_rfl
        exact (show Tryd.prog.wantsStandIn t = false by simpa using List.all_eq_true.1 hall t hm)⟩)
    (by kernel_rfl)
#print axioms topTalks_card
end Go.Proofs.YtehhldpmhlocdaaDoor

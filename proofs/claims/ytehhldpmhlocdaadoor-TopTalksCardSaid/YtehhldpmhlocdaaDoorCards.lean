/-
  DERIVED. GIVEN WITH THE SEED: THE CARDS: each row of YtehhldpmhlocdaaDoorRows.lean that lists a variable, with what it lists TIED to the program's text (the seventh form; the later family's looks); each row that meets fmt, with fmt's text TOLD by the authors' own Lean function (tested against real Go, not proved from fmt's source: count such statements apart). THE CARD IS WHAT COUNTS. Prove the row's statement (the work); the ties are given (YtehhldpmhlocdaaDoorTie.lean); close each card by the builder's one call (the guide's Derived/Test/ToyasCard.lean, 'card_holds'). Laid BY PROGRAM, IN A SANDBOX (cutbox-door.mjs). By AI agents, Wed Nov 11 2026. No macro, syntax, notation, axiom, sorry.
-/
import Derived.Test.YtehhldpmhlocdaaDoorRows
import GoSem.ClaimSeven
namespace Go.Proofs.YtehhldpmhlocdaaDoor
namespace Rows

/-- THE TIED CARD OF 'gemeltop.TopTalks'. -/
def topTalksCard : Claim7 := { stood := { row := topTalksRow, standIns := [], harness := (true, "8d90d7c6ef1d7936ea9058835dfd4192a8883f693b8c0b954657bed89c12cd21"), looks := true }, kinds := [], alts := [], laidByText := true, laidKinds := [.sentinel], laidTests := true, laidLooks := .later }
def TopTalksCardSaid : Prop := Claim7.holds Tryd.pinned (.plain (OpenSpec.ofChange topTalksSpec)) topTalksCard

/-- THE SECOND FORM's CARD OF 'gemeltop.TopTalks'. -/
def topTalksUptoCard : Claim7 := { stood := { row := topTalksUptoRow, standIns := [], harness := (true, "8d90d7c6ef1d7936ea9058835dfd4192a8883f693b8c0b954657bed89c12cd21"), looks := true }, kinds := [], alts := [], laidByText := true, laidKinds := [.sentinel], laidTests := true, laidLooks := .later }
def TopTalksUptoCardSaid : Prop := Claim7.holds Tryd.pinned (.plain (OpenSpec.upto topTalksSpec)) topTalksUptoCard
end Rows
end Go.Proofs.YtehhldpmhlocdaaDoor

/-
  No cell of these rows narrows 'for every input' (looked for: loops, veiled, ifaces, maps, wideKeys, modest, calm, conditions, laid).
  DERIVED. THE GIVEN ROWS OF THIS SEAT. 5 by the template 'for every input the law returns true; each argument reads behind the call as it read before'; 0 by the template 'total and deterministic' (their statements: YtekljcgljoianaaTotals.lean).
  GIVEN WITH THE SEED: the statements are not yours to turn. If you find one false, say at which input.
  Laid BY PROGRAM, IN A SANDBOX (cutbox-rows.mjs): the forced cells as the released guide's own fill.sh prints them over the translation 428244c097bae95f… (all of the seat's roots in one cut). By AI agents, Wed Nov 11 2026. No macro, syntax, notation, axiom, sorry.
-/
import Derived.Test.YtekljcgljoianaaChecked
import GoSem.Claim
import GoSem.ClaimJoined
import GoSem.ClaimMapViews
import Derived.JoinedTies
import Derived.KernelRfl
namespace Go.Proofs.Ytekljcgljoianaa
/- THE CELL 'sum', in the pinned program and in every row, IS THE sha256 OF THE DUMP (.gsa) THAT YtekljcgljoianaaProg.lean LOADS. Nothing in Lean hashes anything: it is a label: what it is worth is what the hold of that sum in a sandbox is worth. -/
noncomputable def Try.pinned : Pinned := { name := "ytekljcgljoianaa", sum := "428244c097bae95fd303cd6e455ef1fe7d452a0bd11a3261969b4cfdc30b86bb", checked := Try.checked }
namespace Rows
def none {H : Type} : Left H := { results := [], args := [] }

/-- 'gemellaw19.LaneWhole': WHATEVER THE INPUT: true; the input reads as it did. -/
def laneWholeSpec : ChangeSpec := { name := "laneWhole", fn := fun _ => fun
  | [d1, d2] => { results := [.lit (.bool true)], args := [d1, d2] }
  | _ => none }
def laneWholeRow : OpenClaim := { program := "ytekljcgljoianaa", sum := "428244c097bae95fd303cd6e455ef1fe7d452a0bd11a3261969b4cfdc30b86bb", func := "gemel/gemellaw19.LaneWhole", spec := "laneWhole", apart := false }
def LaneWholeSaid : Prop := laneWholeRow.holds Try.pinned (OpenSpec.ofChange laneWholeSpec)

/-- ITS FALSE NEIGHBOUR: 'it returns false'. Refute it at one input. -/
def laneWholeWrong : ChangeSpec := { name := "laneWhole", fn := fun _ => fun
  | [d1, d2] => { results := [.lit (.bool false)], args := [d1, d2] }
  | _ => none }
def LaneWholeWrongFalsely : Prop := laneWholeRow.holds Try.pinned (OpenSpec.ofChange laneWholeWrong)

/-- 'gemellaw19.LaneOrder': WHATEVER THE INPUT: true; the input reads as it did. -/
def laneOrderSpec : ChangeSpec := { name := "laneOrder", fn := fun _ => fun
  | [d1, d2] => { results := [.lit (.bool true)], args := [d1, d2] }
  | _ => none }
def laneOrderRow : OpenClaim := { program := "ytekljcgljoianaa", sum := "428244c097bae95fd303cd6e455ef1fe7d452a0bd11a3261969b4cfdc30b86bb", func := "gemel/gemellaw19.LaneOrder", spec := "laneOrder", apart := false }
def LaneOrderSaid : Prop := laneOrderRow.holds Try.pinned (OpenSpec.ofChange laneOrderSpec)

/-- ITS FALSE NEIGHBOUR: 'it returns false'. Refute it at one input. -/
def laneOrderWrong : ChangeSpec := { name := "laneOrder", fn := fun _ => fun
  | [d1, d2] => { results := [.lit (.bool false)], args := [d1, d2] }
  | _ => none }
def LaneOrderWrongFalsely : Prop := laneOrderRow.holds Try.pinned (OpenSpec.ofChange laneOrderWrong)

/-- 'gemellaw19.LaneOwn': WHATEVER THE INPUT: true; the input reads as it did. -/
def laneOwnSpec : ChangeSpec := { name := "laneOwn", fn := fun _ => fun
  | [d1, d2] => { results := [.lit (.bool true)], args := [d1, d2] }
  | _ => none }
def laneOwnRow : OpenClaim := { program := "ytekljcgljoianaa", sum := "428244c097bae95fd303cd6e455ef1fe7d452a0bd11a3261969b4cfdc30b86bb", func := "gemel/gemellaw19.LaneOwn", spec := "laneOwn", apart := false }
def LaneOwnSaid : Prop := laneOwnRow.holds Try.pinned (OpenSpec.ofChange laneOwnSpec)

/-- ITS FALSE NEIGHBOUR: 'it returns false'. Refute it at one input. -/
def laneOwnWrong : ChangeSpec := { name := "laneOwn", fn := fun _ => fun
  | [d1, d2] => { results := [.lit (.bool false)], args := [d1, d2] }
  | _ => none }
def LaneOwnWrongFalsely : Prop := laneOwnRow.holds Try.pinned (OpenSpec.ofChange laneOwnWrong)

/-- 'gemellaw19.LaneScripts': WHATEVER THE INPUT: true; the input reads as it did. -/
def laneScriptsSpec : ChangeSpec := { name := "laneScripts", fn := fun _ => fun
  | [d1, d2] => { results := [.lit (.bool true)], args := [d1, d2] }
  | _ => none }
def laneScriptsRow : OpenClaim := { program := "ytekljcgljoianaa", sum := "428244c097bae95fd303cd6e455ef1fe7d452a0bd11a3261969b4cfdc30b86bb", func := "gemel/gemellaw19.LaneScripts", spec := "laneScripts", apart := false }
def LaneScriptsSaid : Prop := laneScriptsRow.holds Try.pinned (OpenSpec.ofChange laneScriptsSpec)

/-- ITS FALSE NEIGHBOUR: 'it returns false'. Refute it at one input. -/
def laneScriptsWrong : ChangeSpec := { name := "laneScripts", fn := fun _ => fun
  | [d1, d2] => { results := [.lit (.bool false)], args := [d1, d2] }
  | _ => none }
def LaneScriptsWrongFalsely : Prop := laneScriptsRow.holds Try.pinned (OpenSpec.ofChange laneScriptsWrong)

/-- 'gemellaw19.LaneSums': WHATEVER THE INPUT: true; the input reads as it did. -/
def laneSumsSpec : ChangeSpec := { name := "laneSums", fn := fun _ => fun
  | [d1, d2] => { results := [.lit (.bool true)], args := [d1, d2] }
  | _ => none }
def laneSumsRow : OpenClaim := { program := "ytekljcgljoianaa", sum := "428244c097bae95fd303cd6e455ef1fe7d452a0bd11a3261969b4cfdc30b86bb", func := "gemel/gemellaw19.LaneSums", spec := "laneSums", apart := false }
def LaneSumsSaid : Prop := laneSumsRow.holds Try.pinned (OpenSpec.ofChange laneSumsSpec)

/-- ITS FALSE NEIGHBOUR: 'it returns false'. Refute it at one input. -/
def laneSumsWrong : ChangeSpec := { name := "laneSums", fn := fun _ => fun
  | [d1, d2] => { results := [.lit (.bool false)], args := [d1, d2] }
  | _ => none }
def LaneSumsWrongFalsely : Prop := laneSumsRow.holds Try.pinned (OpenSpec.ofChange laneSumsWrong)

/- THE SECOND FORM. 'bulk': how many values and letters a reading holds, each counted each time it is reached (what is shared counts as often as it is met; a slice's spare places count too). A statement '..UptoSaid' is the law's where the arguments, and the package variables that the reading takes, are together of bulk at most 1048576: NARROWER than '..Said'. Prove '..Said' where nothing that the law and all that it calls make is longer than what came in: it says more and counts as full. Else prove '..UptoSaid'. A law counts once. -/
mutual
def uptoBulk {H : Type} : DataW H → Nat
  | .lit (.string bytes) => bytes.length + 1
  | .lit _ => 1
  | .nil => 1
  | .ptr d => uptoBulk d + 1
  | .slice elems spare => uptoBulkAll elems + uptoBulkAll spare + 1
  | .agg parts => uptoBulkAll parts + 1
  | .iface _ d => uptoBulk d + 1
  | .map entries => uptoBulkEntries entries + 1
  | .held _ => 1
def uptoBulkAll {H : Type} : List (DataW H) → Nat
  | [] => 0
  | d :: r => uptoBulk d + uptoBulkAll r
def uptoBulkEntries {H : Type} : List (Lit × DataW H) → Nat
  | [] => 0
  | x :: r => uptoBulkEntry x + uptoBulkEntries r
def uptoBulkEntry {H : Type} : Lit × DataW H → Nat
  | (.string bytes, d) => bytes.length + uptoBulk d + 1
  | (_, d) => uptoBulk d + 1
 end
def uptoSmall : (H : Type) → List (DataW H) → Bool := fun _ ds => decide (uptoBulkAll ds ≤ 1048576)
def OpenSpec.upto (s : _root_.Go.ChangeSpec) : _root_.Go.OpenSpec := { _root_.Go.OpenSpec.ofChange s with cond := some uptoSmall }

/-- 'gemellaw19.LaneWhole', WHERE WHAT IT READS IS OF BULK AT MOST 1048576: true; the input reads as it did. -/
def laneWholeUptoRow : OpenClaim := { program := "ytekljcgljoianaa", sum := "428244c097bae95fd303cd6e455ef1fe7d452a0bd11a3261969b4cfdc30b86bb", func := "gemel/gemellaw19.LaneWhole", spec := "laneWhole", apart := false, narrowed := true }
def LaneWholeUptoSaid : Prop := laneWholeUptoRow.holds Try.pinned (OpenSpec.upto laneWholeSpec)

/-- 'gemellaw19.LaneOrder', WHERE WHAT IT READS IS OF BULK AT MOST 1048576: true; the input reads as it did. -/
def laneOrderUptoRow : OpenClaim := { program := "ytekljcgljoianaa", sum := "428244c097bae95fd303cd6e455ef1fe7d452a0bd11a3261969b4cfdc30b86bb", func := "gemel/gemellaw19.LaneOrder", spec := "laneOrder", apart := false, narrowed := true }
def LaneOrderUptoSaid : Prop := laneOrderUptoRow.holds Try.pinned (OpenSpec.upto laneOrderSpec)

/-- 'gemellaw19.LaneOwn', WHERE WHAT IT READS IS OF BULK AT MOST 1048576: true; the input reads as it did. -/
def laneOwnUptoRow : OpenClaim := { program := "ytekljcgljoianaa", sum := "428244c097bae95fd303cd6e455ef1fe7d452a0bd11a3261969b4cfdc30b86bb", func := "gemel/gemellaw19.LaneOwn", spec := "laneOwn", apart := false, narrowed := true }
def LaneOwnUptoSaid : Prop := laneOwnUptoRow.holds Try.pinned (OpenSpec.upto laneOwnSpec)

/-- 'gemellaw19.LaneScripts', WHERE WHAT IT READS IS OF BULK AT MOST 1048576: true; the input reads as it did. -/
def laneScriptsUptoRow : OpenClaim := { program := "ytekljcgljoianaa", sum := "428244c097bae95fd303cd6e455ef1fe7d452a0bd11a3261969b4cfdc30b86bb", func := "gemel/gemellaw19.LaneScripts", spec := "laneScripts", apart := false, narrowed := true }
def LaneScriptsUptoSaid : Prop := laneScriptsUptoRow.holds Try.pinned (OpenSpec.upto laneScriptsSpec)

/-- 'gemellaw19.LaneSums', WHERE WHAT IT READS IS OF BULK AT MOST 1048576: true; the input reads as it did. -/
def laneSumsUptoRow : OpenClaim := { program := "ytekljcgljoianaa", sum := "428244c097bae95fd303cd6e455ef1fe7d452a0bd11a3261969b4cfdc30b86bb", func := "gemel/gemellaw19.LaneSums", spec := "laneSums", apart := false, narrowed := true }
def LaneSumsUptoSaid : Prop := laneSumsUptoRow.holds Try.pinned (OpenSpec.upto laneSumsSpec)

end Rows
end Go.Proofs.Ytekljcgljoianaa

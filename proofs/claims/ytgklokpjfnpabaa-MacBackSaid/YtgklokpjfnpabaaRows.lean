/-
  No cell of these rows narrows 'for every input' (looked for: loops, veiled, ifaces, maps, wideKeys, modest, calm, conditions, laid).
  DERIVED. THE GIVEN ROWS OF THIS SEAT. 7 by the template 'for every input the law returns true; each argument reads behind the call as it read before'; 0 by the template 'total and deterministic' (their statements: YtgklokpjfnpabaaTotals.lean).
  GIVEN WITH THE SEED: the statements are not yours to turn. If you find one false, say at which input.
  Laid BY PROGRAM, IN A SANDBOX (cutbox-rows.mjs): the forced cells as the released guide's own fill.sh prints them over the translation 7a4bb30ec2b55a28… (all of the seat's roots in one cut). By AI agents, Wed Nov 11 2026. No macro, syntax, notation, axiom, sorry.
-/
import Derived.Test.YtgklokpjfnpabaaChecked
import GoSem.Claim
import GoSem.ClaimJoined
import GoSem.ClaimMapViews
import Derived.JoinedTies
import Derived.KernelRfl
namespace Go.Proofs.Ytgklokpjfnpabaa
/- THE CELL 'sum', in the pinned program and in every row, IS THE sha256 OF THE DUMP (.gsa) THAT YtgklokpjfnpabaaProg.lean LOADS. Nothing in Lean hashes anything: it is a label: what it is worth is what the hold of that sum in a sandbox is worth. -/
noncomputable def Try.pinned : Pinned := { name := "ytgklokpjfnpabaa", sum := "7a4bb30ec2b55a2823f4dbdcb1fbec4793bb25fd9731b81ba8edb41d20be1529", checked := Try.checked }
namespace Rows
def none {H : Type} : Left H := { results := [], args := [] }

/-- 'gemellaw01.MacTexts': WHATEVER THE INPUT: true; the input reads as it did. -/
def macTextsSpec : ChangeSpec := { name := "macTexts", fn := fun _ => fun
  | [d] => { results := [.lit (.bool true)], args := [d] }
  | _ => none }
def macTextsRow : OpenClaim := { program := "ytgklokpjfnpabaa", sum := "7a4bb30ec2b55a2823f4dbdcb1fbec4793bb25fd9731b81ba8edb41d20be1529", func := "gemel/gemellaw01.MacTexts", spec := "macTexts", apart := false }
def MacTextsSaid : Prop := macTextsRow.holds Try.pinned (OpenSpec.ofChange macTextsSpec)

/-- ITS FALSE NEIGHBOUR: 'it returns false'. Refute it at one input. -/
def macTextsWrong : ChangeSpec := { name := "macTexts", fn := fun _ => fun
  | [d] => { results := [.lit (.bool false)], args := [d] }
  | _ => none }
def MacTextsWrongFalsely : Prop := macTextsRow.holds Try.pinned (OpenSpec.ofChange macTextsWrong)

/-- 'gemellaw01.MacOrder': WHATEVER THE INPUT: true; the input reads as it did. -/
def macOrderSpec : ChangeSpec := { name := "macOrder", fn := fun _ => fun
  | [d1, d2, d3] => { results := [.lit (.bool true)], args := [d1, d2, d3] }
  | _ => none }
def macOrderRow : OpenClaim := { program := "ytgklokpjfnpabaa", sum := "7a4bb30ec2b55a2823f4dbdcb1fbec4793bb25fd9731b81ba8edb41d20be1529", func := "gemel/gemellaw01.MacOrder", spec := "macOrder", inPlace := ["internal/bytealg.Compare"], apart := false }
def MacOrderSaid : Prop := macOrderRow.holds Try.pinned (OpenSpec.ofChange macOrderSpec)

/-- ITS FALSE NEIGHBOUR: 'it returns false'. Refute it at one input. -/
def macOrderWrong : ChangeSpec := { name := "macOrder", fn := fun _ => fun
  | [d1, d2, d3] => { results := [.lit (.bool false)], args := [d1, d2, d3] }
  | _ => none }
def MacOrderWrongFalsely : Prop := macOrderRow.holds Try.pinned (OpenSpec.ofChange macOrderWrong)

/-- 'gemellaw01.MacKept': WHATEVER THE INPUT: true; the input reads as it did. -/
def macKeptSpec : ChangeSpec := { name := "macKept", fn := fun _ => fun
  | [d] => { results := [.lit (.bool true)], args := [d] }
  | _ => none }
def macKeptRow : OpenClaim := { program := "ytgklokpjfnpabaa", sum := "7a4bb30ec2b55a2823f4dbdcb1fbec4793bb25fd9731b81ba8edb41d20be1529", func := "gemel/gemellaw01.MacKept", spec := "macKept", apart := false }
def MacKeptSaid : Prop := macKeptRow.holds Try.pinned (OpenSpec.ofChange macKeptSpec)

/-- ITS FALSE NEIGHBOUR: 'it returns false'. Refute it at one input. -/
def macKeptWrong : ChangeSpec := { name := "macKept", fn := fun _ => fun
  | [d] => { results := [.lit (.bool false)], args := [d] }
  | _ => none }
def MacKeptWrongFalsely : Prop := macKeptRow.holds Try.pinned (OpenSpec.ofChange macKeptWrong)

/-- 'gemellaw01.MacNumbers': WHATEVER THE INPUT: true; the input reads as it did. -/
def macNumbersSpec : ChangeSpec := { name := "macNumbers", fn := fun _ => fun
  | [d1, d2, d3] => { results := [.lit (.bool true)], args := [d1, d2, d3] }
  | _ => none }
def macNumbersRow : OpenClaim := { program := "ytgklokpjfnpabaa", sum := "7a4bb30ec2b55a2823f4dbdcb1fbec4793bb25fd9731b81ba8edb41d20be1529", func := "gemel/gemellaw01.MacNumbers", spec := "macNumbers", inPlace := ["internal/bytealg.Compare"], apart := false }
def MacNumbersSaid : Prop := macNumbersRow.holds Try.pinned (OpenSpec.ofChange macNumbersSpec)

/-- ITS FALSE NEIGHBOUR: 'it returns false'. Refute it at one input. -/
def macNumbersWrong : ChangeSpec := { name := "macNumbers", fn := fun _ => fun
  | [d1, d2, d3] => { results := [.lit (.bool false)], args := [d1, d2, d3] }
  | _ => none }
def MacNumbersWrongFalsely : Prop := macNumbersRow.holds Try.pinned (OpenSpec.ofChange macNumbersWrong)

/-- 'gemellaw01.MacParses': WHATEVER THE INPUT: true; the input reads as it did. -/
def macParsesSpec : ChangeSpec := { name := "macParses", fn := fun _ => fun
  | [d] => { results := [.lit (.bool true)], args := [d] }
  | _ => none }
def macParsesRow : OpenClaim := { program := "ytgklokpjfnpabaa", sum := "7a4bb30ec2b55a2823f4dbdcb1fbec4793bb25fd9731b81ba8edb41d20be1529", func := "gemel/gemellaw01.MacParses", spec := "macParses", inPlace := ["internal/bytealg.IndexByte"], apart := false }
def MacParsesSaid : Prop := macParsesRow.holds Try.pinned (OpenSpec.ofChange macParsesSpec)

/-- ITS FALSE NEIGHBOUR: 'it returns false'. Refute it at one input. -/
def macParsesWrong : ChangeSpec := { name := "macParses", fn := fun _ => fun
  | [d] => { results := [.lit (.bool false)], args := [d] }
  | _ => none }
def MacParsesWrongFalsely : Prop := macParsesRow.holds Try.pinned (OpenSpec.ofChange macParsesWrong)

/-- 'gemellaw01.MacBack': WHATEVER THE INPUT: true; the input reads as it did. -/
def macBackSpec : ChangeSpec := { name := "macBack", fn := fun _ => fun
  | [d] => { results := [.lit (.bool true)], args := [d] }
  | _ => none }
def macBackRow : OpenClaim := { program := "ytgklokpjfnpabaa", sum := "7a4bb30ec2b55a2823f4dbdcb1fbec4793bb25fd9731b81ba8edb41d20be1529", func := "gemel/gemellaw01.MacBack", spec := "macBack", inPlace := ["internal/bytealg.IndexByte"], apart := false }
def MacBackSaid : Prop := macBackRow.holds Try.pinned (OpenSpec.ofChange macBackSpec)

/-- ITS FALSE NEIGHBOUR: 'it returns false'. Refute it at one input. -/
def macBackWrong : ChangeSpec := { name := "macBack", fn := fun _ => fun
  | [d] => { results := [.lit (.bool false)], args := [d] }
  | _ => none }
def MacBackWrongFalsely : Prop := macBackRow.holds Try.pinned (OpenSpec.ofChange macBackWrong)

/-- 'gemellaw01.MacOnce': WHATEVER THE INPUT: true; the input reads as it did. -/
def macOnceSpec : ChangeSpec := { name := "macOnce", fn := fun _ => fun
  | [d1, d2] => { results := [.lit (.bool true)], args := [d1, d2] }
  | _ => none }
def macOnceRow : OpenClaim := { program := "ytgklokpjfnpabaa", sum := "7a4bb30ec2b55a2823f4dbdcb1fbec4793bb25fd9731b81ba8edb41d20be1529", func := "gemel/gemellaw01.MacOnce", spec := "macOnce", inPlace := ["internal/bytealg.IndexByte"], apart := false }
def MacOnceSaid : Prop := macOnceRow.holds Try.pinned (OpenSpec.ofChange macOnceSpec)

/-- ITS FALSE NEIGHBOUR: 'it returns false'. Refute it at one input. -/
def macOnceWrong : ChangeSpec := { name := "macOnce", fn := fun _ => fun
  | [d1, d2] => { results := [.lit (.bool false)], args := [d1, d2] }
  | _ => none }
def MacOnceWrongFalsely : Prop := macOnceRow.holds Try.pinned (OpenSpec.ofChange macOnceWrong)

/- THE SECOND FORM. 'bulk': how many values and letters a reading holds, each counted each time it is reached (what is shared counts as often as it is met; a slice's spare places count too). A statement '..UptoSaid' is the law's where the arguments, and the package variables that the reading takes, are together of bulk at most 1048576: NARROWER than '..Said'. Prove '..Said' where nothing that the law and all that it calls make is longer than what came in: it says more and counts as full. Else prove '..UptoSaid'. A law counts once. -/
mutual
def uptoBulk {H : Type} : DataW H → Nat
  | .lit (.string bytes) => bytes.length + 1
  | .lit _ => 1
  | .nil => 1
  | .ptr d => uptoBulk d + 1
  | .slice elems spare => uptoBulkAll elems + uptoBulkAll spare + 1
  | .agg parts => uptoBulkAll parts + 1
  | .iface _ d => uptoBulk d + 1
  | .map entries => uptoBulkEntries entries + 1
  | .held _ => 1
def uptoBulkAll {H : Type} : List (DataW H) → Nat
  | [] => 0
  | d :: r => uptoBulk d + uptoBulkAll r
def uptoBulkEntries {H : Type} : List (Lit × DataW H) → Nat
  | [] => 0
  | x :: r => uptoBulkEntry x + uptoBulkEntries r
def uptoBulkEntry {H : Type} : Lit × DataW H → Nat
  | (.string bytes, d) => bytes.length + uptoBulk d + 1
  | (_, d) => uptoBulk d + 1
 end
def uptoSmall : (H : Type) → List (DataW H) → Bool := fun _ ds => decide (uptoBulkAll ds ≤ 1048576)
def OpenSpec.upto (s : _root_.Go.ChangeSpec) : _root_.Go.OpenSpec := { _root_.Go.OpenSpec.ofChange s with cond := some uptoSmall }

/-- 'gemellaw01.MacTexts', WHERE WHAT IT READS IS OF BULK AT MOST 1048576: true; the input reads as it did. -/
def macTextsUptoRow : OpenClaim := { program := "ytgklokpjfnpabaa", sum := "7a4bb30ec2b55a2823f4dbdcb1fbec4793bb25fd9731b81ba8edb41d20be1529", func := "gemel/gemellaw01.MacTexts", spec := "macTexts", apart := false, narrowed := true }
def MacTextsUptoSaid : Prop := macTextsUptoRow.holds Try.pinned (OpenSpec.upto macTextsSpec)

/-- 'gemellaw01.MacOrder', WHERE WHAT IT READS IS OF BULK AT MOST 1048576: true; the input reads as it did. -/
def macOrderUptoRow : OpenClaim := { program := "ytgklokpjfnpabaa", sum := "7a4bb30ec2b55a2823f4dbdcb1fbec4793bb25fd9731b81ba8edb41d20be1529", func := "gemel/gemellaw01.MacOrder", spec := "macOrder", inPlace := ["internal/bytealg.Compare"], apart := false, narrowed := true }
def MacOrderUptoSaid : Prop := macOrderUptoRow.holds Try.pinned (OpenSpec.upto macOrderSpec)

/-- 'gemellaw01.MacKept', WHERE WHAT IT READS IS OF BULK AT MOST 1048576: true; the input reads as it did. -/
def macKeptUptoRow : OpenClaim := { program := "ytgklokpjfnpabaa", sum := "7a4bb30ec2b55a2823f4dbdcb1fbec4793bb25fd9731b81ba8edb41d20be1529", func := "gemel/gemellaw01.MacKept", spec := "macKept", apart := false, narrowed := true }
def MacKeptUptoSaid : Prop := macKeptUptoRow.holds Try.pinned (OpenSpec.upto macKeptSpec)

/-- 'gemellaw01.MacNumbers', WHERE WHAT IT READS IS OF BULK AT MOST 1048576: true; the input reads as it did. -/
def macNumbersUptoRow : OpenClaim := { program := "ytgklokpjfnpabaa", sum := "7a4bb30ec2b55a2823f4dbdcb1fbec4793bb25fd9731b81ba8edb41d20be1529", func := "gemel/gemellaw01.MacNumbers", spec := "macNumbers", inPlace := ["internal/bytealg.Compare"], apart := false, narrowed := true }
def MacNumbersUptoSaid : Prop := macNumbersUptoRow.holds Try.pinned (OpenSpec.upto macNumbersSpec)

/-- 'gemellaw01.MacParses', WHERE WHAT IT READS IS OF BULK AT MOST 1048576: true; the input reads as it did. -/
def macParsesUptoRow : OpenClaim := { program := "ytgklokpjfnpabaa", sum := "7a4bb30ec2b55a2823f4dbdcb1fbec4793bb25fd9731b81ba8edb41d20be1529", func := "gemel/gemellaw01.MacParses", spec := "macParses", inPlace := ["internal/bytealg.IndexByte"], apart := false, narrowed := true }
def MacParsesUptoSaid : Prop := macParsesUptoRow.holds Try.pinned (OpenSpec.upto macParsesSpec)

/-- 'gemellaw01.MacBack', WHERE WHAT IT READS IS OF BULK AT MOST 1048576: true; the input reads as it did. -/
def macBackUptoRow : OpenClaim := { program := "ytgklokpjfnpabaa", sum := "7a4bb30ec2b55a2823f4dbdcb1fbec4793bb25fd9731b81ba8edb41d20be1529", func := "gemel/gemellaw01.MacBack", spec := "macBack", inPlace := ["internal/bytealg.IndexByte"], apart := false, narrowed := true }
def MacBackUptoSaid : Prop := macBackUptoRow.holds Try.pinned (OpenSpec.upto macBackSpec)

/-- 'gemellaw01.MacOnce', WHERE WHAT IT READS IS OF BULK AT MOST 1048576: true; the input reads as it did. -/
def macOnceUptoRow : OpenClaim := { program := "ytgklokpjfnpabaa", sum := "7a4bb30ec2b55a2823f4dbdcb1fbec4793bb25fd9731b81ba8edb41d20be1529", func := "gemel/gemellaw01.MacOnce", spec := "macOnce", inPlace := ["internal/bytealg.IndexByte"], apart := false, narrowed := true }
def MacOnceUptoSaid : Prop := macOnceUptoRow.holds Try.pinned (OpenSpec.upto macOnceSpec)

end Rows
end Go.Proofs.Ytgklokpjfnpabaa

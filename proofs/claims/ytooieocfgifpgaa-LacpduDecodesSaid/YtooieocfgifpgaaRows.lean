/-
  No cell of these rows narrows 'for every input' (looked for: loops, veiled, ifaces, maps, wideKeys, modest, calm, conditions, laid).
  DERIVED. THE GIVEN ROWS OF THIS SEAT. 11 by the template 'for every input the law returns true; each argument reads behind the call as it read before'; 0 by the template 'total and deterministic' (their statements: YtooieocfgifpgaaTotals.lean).
  GIVEN WITH THE SEED: the statements are not yours to turn. If you find one false, say at which input.
  Laid BY PROGRAM, IN A SANDBOX (cutbox-rows.mjs): the forced cells as the released guide's own fill.sh prints them over the translation 33df6d73b4694416… (all of the seat's roots in one cut). By AI agents, Wed Nov 11 2026. No macro, syntax, notation, axiom, sorry.
-/
import Derived.Test.YtooieocfgifpgaaChecked
import GoSem.Claim
import GoSem.ClaimJoined
import GoSem.ClaimMapViews
import Derived.JoinedTies
import Derived.KernelRfl
namespace Go.Proofs.Ytooieocfgifpgaa
/- THE CELL 'sum', in the pinned program and in every row, IS THE sha256 OF THE DUMP (.gsa) THAT YtooieocfgifpgaaProg.lean LOADS. Nothing in Lean hashes anything: it is a label: what it is worth is what the hold of that sum in a sandbox is worth. -/
noncomputable def Try.pinned : Pinned := { name := "ytooieocfgifpgaa", sum := "33df6d73b4694416b9900b13f064b92620ce56d0f9cb84bf11fe93e808a8c2b5", checked := Try.checked }
namespace Rows
def none {H : Type} : Left H := { results := [], args := [] }

/-- 'gemellaw04.LacpduEncodes': WHATEVER THE INPUT: true; the input reads as it did. -/
def lacpduEncodesSpec : ChangeSpec := { name := "lacpduEncodes", fn := fun _ => fun
  | [d] => { results := [.lit (.bool true)], args := [d] }
  | _ => none }
def lacpduEncodesRow : OpenClaim := { program := "ytooieocfgifpgaa", sum := "33df6d73b4694416b9900b13f064b92620ce56d0f9cb84bf11fe93e808a8c2b5", func := "gemel/gemellaw04.LacpduEncodes", spec := "lacpduEncodes", apart := false }
def LacpduEncodesSaid : Prop := lacpduEncodesRow.holds Try.pinned (OpenSpec.ofChange lacpduEncodesSpec)

/-- ITS FALSE NEIGHBOUR: 'it returns false'. Refute it at one input. -/
def lacpduEncodesWrong : ChangeSpec := { name := "lacpduEncodes", fn := fun _ => fun
  | [d] => { results := [.lit (.bool false)], args := [d] }
  | _ => none }
def LacpduEncodesWrongFalsely : Prop := lacpduEncodesRow.holds Try.pinned (OpenSpec.ofChange lacpduEncodesWrong)

/-- 'gemellaw04.LacpduOnce': WHATEVER THE INPUT: true; the input reads as it did. -/
def lacpduOnceSpec : ChangeSpec := { name := "lacpduOnce", fn := fun _ => fun
  | [d1, d2] => { results := [.lit (.bool true)], args := [d1, d2] }
  | _ => none }
def lacpduOnceRow : OpenClaim := { program := "ytooieocfgifpgaa", sum := "33df6d73b4694416b9900b13f064b92620ce56d0f9cb84bf11fe93e808a8c2b5", func := "gemel/gemellaw04.LacpduOnce", spec := "lacpduOnce", apart := false }
def LacpduOnceSaid : Prop := lacpduOnceRow.holds Try.pinned (OpenSpec.ofChange lacpduOnceSpec)

/-- ITS FALSE NEIGHBOUR: 'it returns false'. Refute it at one input. -/
def lacpduOnceWrong : ChangeSpec := { name := "lacpduOnce", fn := fun _ => fun
  | [d1, d2] => { results := [.lit (.bool false)], args := [d1, d2] }
  | _ => none }
def LacpduOnceWrongFalsely : Prop := lacpduOnceRow.holds Try.pinned (OpenSpec.ofChange lacpduOnceWrong)

/-- 'gemellaw04.LacpduKnows': WHATEVER THE INPUT: true; the input reads as it did. -/
def lacpduKnowsSpec : ChangeSpec := { name := "lacpduKnows", fn := fun _ => fun
  | [d1, d2] => { results := [.lit (.bool true)], args := [d1, d2] }
  | _ => none }
def lacpduKnowsRow : OpenClaim := { program := "ytooieocfgifpgaa", sum := "33df6d73b4694416b9900b13f064b92620ce56d0f9cb84bf11fe93e808a8c2b5", func := "gemel/gemellaw04.LacpduKnows", spec := "lacpduKnows", inPlace := ["internal/bytealg.Compare"], apart := false }
def LacpduKnowsSaid : Prop := lacpduKnowsRow.holds Try.pinned (OpenSpec.ofChange lacpduKnowsSpec)

/-- ITS FALSE NEIGHBOUR: 'it returns false'. Refute it at one input. -/
def lacpduKnowsWrong : ChangeSpec := { name := "lacpduKnows", fn := fun _ => fun
  | [d1, d2] => { results := [.lit (.bool false)], args := [d1, d2] }
  | _ => none }
def LacpduKnowsWrongFalsely : Prop := lacpduKnowsRow.holds Try.pinned (OpenSpec.ofChange lacpduKnowsWrong)

/-- 'gemellaw04.LacpduOrder': WHATEVER THE INPUT: true; the input reads as it did. -/
def lacpduOrderSpec : ChangeSpec := { name := "lacpduOrder", fn := fun _ => fun
  | [d1, d2, d3] => { results := [.lit (.bool true)], args := [d1, d2, d3] }
  | _ => none }
def lacpduOrderRow : OpenClaim := { program := "ytooieocfgifpgaa", sum := "33df6d73b4694416b9900b13f064b92620ce56d0f9cb84bf11fe93e808a8c2b5", func := "gemel/gemellaw04.LacpduOrder", spec := "lacpduOrder", inPlace := ["internal/bytealg.Compare"], apart := false }
def LacpduOrderSaid : Prop := lacpduOrderRow.holds Try.pinned (OpenSpec.ofChange lacpduOrderSpec)

/-- ITS FALSE NEIGHBOUR: 'it returns false'. Refute it at one input. -/
def lacpduOrderWrong : ChangeSpec := { name := "lacpduOrder", fn := fun _ => fun
  | [d1, d2, d3] => { results := [.lit (.bool false)], args := [d1, d2, d3] }
  | _ => none }
def LacpduOrderWrongFalsely : Prop := lacpduOrderRow.holds Try.pinned (OpenSpec.ofChange lacpduOrderWrong)

/-- 'gemellaw04.LacpduDecodes': WHATEVER THE INPUT: true; the input reads as it did. -/
def lacpduDecodesSpec : ChangeSpec := { name := "lacpduDecodes", fn := fun _ => fun
  | [d] => { results := [.lit (.bool true)], args := [d] }
  | _ => none }
def lacpduDecodesRow : OpenClaim := { program := "ytooieocfgifpgaa", sum := "33df6d73b4694416b9900b13f064b92620ce56d0f9cb84bf11fe93e808a8c2b5", func := "gemel/gemellaw04.LacpduDecodes", spec := "lacpduDecodes", unfollowed := true, recurses := true, apart := false }
def LacpduDecodesSaid : Prop := lacpduDecodesRow.holds Try.pinned (OpenSpec.ofChange lacpduDecodesSpec)

/-- ITS FALSE NEIGHBOUR: 'it returns false'. Refute it at one input. -/
def lacpduDecodesWrong : ChangeSpec := { name := "lacpduDecodes", fn := fun _ => fun
  | [d] => { results := [.lit (.bool false)], args := [d] }
  | _ => none }
def LacpduDecodesWrongFalsely : Prop := lacpduDecodesRow.holds Try.pinned (OpenSpec.ofChange lacpduDecodesWrong)

/-- 'gemellaw04.LacpduBack': WHATEVER THE INPUT: true; the input reads as it did. -/
def lacpduBackSpec : ChangeSpec := { name := "lacpduBack", fn := fun _ => fun
  | [d1, d2] => { results := [.lit (.bool true)], args := [d1, d2] }
  | _ => none }
def lacpduBackRow : OpenClaim := { program := "ytooieocfgifpgaa", sum := "33df6d73b4694416b9900b13f064b92620ce56d0f9cb84bf11fe93e808a8c2b5", func := "gemel/gemellaw04.LacpduBack", spec := "lacpduBack", unfollowed := true, recurses := true, apart := false }
def LacpduBackSaid : Prop := lacpduBackRow.holds Try.pinned (OpenSpec.ofChange lacpduBackSpec)

/-- ITS FALSE NEIGHBOUR: 'it returns false'. Refute it at one input. -/
def lacpduBackWrong : ChangeSpec := { name := "lacpduBack", fn := fun _ => fun
  | [d1, d2] => { results := [.lit (.bool false)], args := [d1, d2] }
  | _ => none }
def LacpduBackWrongFalsely : Prop := lacpduBackRow.holds Try.pinned (OpenSpec.ofChange lacpduBackWrong)

/-- 'gemellaw13.RxScripts': WHATEVER THE INPUT: true; the input reads as it did. -/
def rxScriptsSpec : ChangeSpec := { name := "rxScripts", fn := fun _ => fun
  | [d1, d2] => { results := [.lit (.bool true)], args := [d1, d2] }
  | _ => none }
def rxScriptsRow : OpenClaim := { program := "ytooieocfgifpgaa", sum := "33df6d73b4694416b9900b13f064b92620ce56d0f9cb84bf11fe93e808a8c2b5", func := "gemel/gemellaw13.RxScripts", spec := "rxScripts", apart := false }
def RxScriptsSaid : Prop := rxScriptsRow.holds Try.pinned (OpenSpec.ofChange rxScriptsSpec)

/-- ITS FALSE NEIGHBOUR: 'it returns false'. Refute it at one input. -/
def rxScriptsWrong : ChangeSpec := { name := "rxScripts", fn := fun _ => fun
  | [d1, d2] => { results := [.lit (.bool false)], args := [d1, d2] }
  | _ => none }
def RxScriptsWrongFalsely : Prop := rxScriptsRow.holds Try.pinned (OpenSpec.ofChange rxScriptsWrong)

/-- 'gemellaw13.RxForgets': WHATEVER THE INPUT: true; the input reads as it did. -/
def rxForgetsSpec : ChangeSpec := { name := "rxForgets", fn := fun _ => fun
  | [d1, d2] => { results := [.lit (.bool true)], args := [d1, d2] }
  | _ => none }
def rxForgetsRow : OpenClaim := { program := "ytooieocfgifpgaa", sum := "33df6d73b4694416b9900b13f064b92620ce56d0f9cb84bf11fe93e808a8c2b5", func := "gemel/gemellaw13.RxForgets", spec := "rxForgets", apart := false }
def RxForgetsSaid : Prop := rxForgetsRow.holds Try.pinned (OpenSpec.ofChange rxForgetsSpec)

/-- ITS FALSE NEIGHBOUR: 'it returns false'. Refute it at one input. -/
def rxForgetsWrong : ChangeSpec := { name := "rxForgets", fn := fun _ => fun
  | [d1, d2] => { results := [.lit (.bool false)], args := [d1, d2] }
  | _ => none }
def RxForgetsWrongFalsely : Prop := rxForgetsRow.holds Try.pinned (OpenSpec.ofChange rxForgetsWrong)

/-- 'gemellaw13.RxHears': WHATEVER THE INPUT: true; the input reads as it did. -/
def rxHearsSpec : ChangeSpec := { name := "rxHears", fn := fun _ => fun
  | [d1, d2, d3] => { results := [.lit (.bool true)], args := [d1, d2, d3] }
  | _ => none }
def rxHearsRow : OpenClaim := { program := "ytooieocfgifpgaa", sum := "33df6d73b4694416b9900b13f064b92620ce56d0f9cb84bf11fe93e808a8c2b5", func := "gemel/gemellaw13.RxHears", spec := "rxHears", apart := false }
def RxHearsSaid : Prop := rxHearsRow.holds Try.pinned (OpenSpec.ofChange rxHearsSpec)

/-- ITS FALSE NEIGHBOUR: 'it returns false'. Refute it at one input. -/
def rxHearsWrong : ChangeSpec := { name := "rxHears", fn := fun _ => fun
  | [d1, d2, d3] => { results := [.lit (.bool false)], args := [d1, d2, d3] }
  | _ => none }
def RxHearsWrongFalsely : Prop := rxHearsRow.holds Try.pinned (OpenSpec.ofChange rxHearsWrong)

/-- 'gemellaw13.RxMeets': WHATEVER THE INPUT: true; the input reads as it did. -/
def rxMeetsSpec : ChangeSpec := { name := "rxMeets", fn := fun _ => fun
  | [d1, d2, d3] => { results := [.lit (.bool true)], args := [d1, d2, d3] }
  | _ => none }
def rxMeetsRow : OpenClaim := { program := "ytooieocfgifpgaa", sum := "33df6d73b4694416b9900b13f064b92620ce56d0f9cb84bf11fe93e808a8c2b5", func := "gemel/gemellaw13.RxMeets", spec := "rxMeets", apart := false }
def RxMeetsSaid : Prop := rxMeetsRow.holds Try.pinned (OpenSpec.ofChange rxMeetsSpec)

/-- ITS FALSE NEIGHBOUR: 'it returns false'. Refute it at one input. -/
def rxMeetsWrong : ChangeSpec := { name := "rxMeets", fn := fun _ => fun
  | [d1, d2, d3] => { results := [.lit (.bool false)], args := [d1, d2, d3] }
  | _ => none }
def RxMeetsWrongFalsely : Prop := rxMeetsRow.holds Try.pinned (OpenSpec.ofChange rxMeetsWrong)

/-- 'gemellaw13.RxDown': WHATEVER THE INPUT: true; the input reads as it did. -/
def rxDownSpec : ChangeSpec := { name := "rxDown", fn := fun _ => fun
  | [d1, d2, d3] => { results := [.lit (.bool true)], args := [d1, d2, d3] }
  | _ => none }
def rxDownRow : OpenClaim := { program := "ytooieocfgifpgaa", sum := "33df6d73b4694416b9900b13f064b92620ce56d0f9cb84bf11fe93e808a8c2b5", func := "gemel/gemellaw13.RxDown", spec := "rxDown", apart := false }
def RxDownSaid : Prop := rxDownRow.holds Try.pinned (OpenSpec.ofChange rxDownSpec)

/-- ITS FALSE NEIGHBOUR: 'it returns false'. Refute it at one input. -/
def rxDownWrong : ChangeSpec := { name := "rxDown", fn := fun _ => fun
  | [d1, d2, d3] => { results := [.lit (.bool false)], args := [d1, d2, d3] }
  | _ => none }
def RxDownWrongFalsely : Prop := rxDownRow.holds Try.pinned (OpenSpec.ofChange rxDownWrong)

/- THE SECOND FORM. 'bulk': how many values and letters a reading holds, each counted each time it is reached (what is shared counts as often as it is met; a slice's spare places count too). A statement '..UptoSaid' is the law's where the arguments, and the package variables that the reading takes, are together of bulk at most 1048576: NARROWER than '..Said'. Prove '..Said' where nothing that the law and all that it calls make is longer than what came in: it says more and counts as full. Else prove '..UptoSaid'. A law counts once. -/
mutual
def uptoBulk {H : Type} : DataW H → Nat
  | .lit (.string bytes) => bytes.length + 1
  | .lit _ => 1
  | .nil => 1
  | .ptr d => uptoBulk d + 1
  | .slice elems spare => uptoBulkAll elems + uptoBulkAll spare + 1
  | .agg parts => uptoBulkAll parts + 1
  | .iface _ d => uptoBulk d + 1
  | .map entries => uptoBulkEntries entries + 1
  | .held _ => 1
def uptoBulkAll {H : Type} : List (DataW H) → Nat
  | [] => 0
  | d :: r => uptoBulk d + uptoBulkAll r
def uptoBulkEntries {H : Type} : List (Lit × DataW H) → Nat
  | [] => 0
  | x :: r => uptoBulkEntry x + uptoBulkEntries r
def uptoBulkEntry {H : Type} : Lit × DataW H → Nat
  | (.string bytes, d) => bytes.length + uptoBulk d + 1
  | (_, d) => uptoBulk d + 1
 end
def uptoSmall : (H : Type) → List (DataW H) → Bool := fun _ ds => decide (uptoBulkAll ds ≤ 1048576)
def OpenSpec.upto (s : _root_.Go.ChangeSpec) : _root_.Go.OpenSpec := { _root_.Go.OpenSpec.ofChange s with cond := some uptoSmall }

/-- 'gemellaw04.LacpduEncodes', WHERE WHAT IT READS IS OF BULK AT MOST 1048576: true; the input reads as it did. -/
def lacpduEncodesUptoRow : OpenClaim := { program := "ytooieocfgifpgaa", sum := "33df6d73b4694416b9900b13f064b92620ce56d0f9cb84bf11fe93e808a8c2b5", func := "gemel/gemellaw04.LacpduEncodes", spec := "lacpduEncodes", apart := false, narrowed := true }
def LacpduEncodesUptoSaid : Prop := lacpduEncodesUptoRow.holds Try.pinned (OpenSpec.upto lacpduEncodesSpec)

/-- 'gemellaw04.LacpduOnce', WHERE WHAT IT READS IS OF BULK AT MOST 1048576: true; the input reads as it did. -/
def lacpduOnceUptoRow : OpenClaim := { program := "ytooieocfgifpgaa", sum := "33df6d73b4694416b9900b13f064b92620ce56d0f9cb84bf11fe93e808a8c2b5", func := "gemel/gemellaw04.LacpduOnce", spec := "lacpduOnce", apart := false, narrowed := true }
def LacpduOnceUptoSaid : Prop := lacpduOnceUptoRow.holds Try.pinned (OpenSpec.upto lacpduOnceSpec)

/-- 'gemellaw04.LacpduKnows', WHERE WHAT IT READS IS OF BULK AT MOST 1048576: true; the input reads as it did. -/
def lacpduKnowsUptoRow : OpenClaim := { program := "ytooieocfgifpgaa", sum := "33df6d73b4694416b9900b13f064b92620ce56d0f9cb84bf11fe93e808a8c2b5", func := "gemel/gemellaw04.LacpduKnows", spec := "lacpduKnows", inPlace := ["internal/bytealg.Compare"], apart := false, narrowed := true }
def LacpduKnowsUptoSaid : Prop := lacpduKnowsUptoRow.holds Try.pinned (OpenSpec.upto lacpduKnowsSpec)

/-- 'gemellaw04.LacpduOrder', WHERE WHAT IT READS IS OF BULK AT MOST 1048576: true; the input reads as it did. -/
def lacpduOrderUptoRow : OpenClaim := { program := "ytooieocfgifpgaa", sum := "33df6d73b4694416b9900b13f064b92620ce56d0f9cb84bf11fe93e808a8c2b5", func := "gemel/gemellaw04.LacpduOrder", spec := "lacpduOrder", inPlace := ["internal/bytealg.Compare"], apart := false, narrowed := true }
def LacpduOrderUptoSaid : Prop := lacpduOrderUptoRow.holds Try.pinned (OpenSpec.upto lacpduOrderSpec)

/-- 'gemellaw04.LacpduDecodes', WHERE WHAT IT READS IS OF BULK AT MOST 1048576: true; the input reads as it did. -/
def lacpduDecodesUptoRow : OpenClaim := { program := "ytooieocfgifpgaa", sum := "33df6d73b4694416b9900b13f064b92620ce56d0f9cb84bf11fe93e808a8c2b5", func := "gemel/gemellaw04.LacpduDecodes", spec := "lacpduDecodes", unfollowed := true, recurses := true, apart := false, narrowed := true }
def LacpduDecodesUptoSaid : Prop := lacpduDecodesUptoRow.holds Try.pinned (OpenSpec.upto lacpduDecodesSpec)

/-- 'gemellaw04.LacpduBack', WHERE WHAT IT READS IS OF BULK AT MOST 1048576: true; the input reads as it did. -/
def lacpduBackUptoRow : OpenClaim := { program := "ytooieocfgifpgaa", sum := "33df6d73b4694416b9900b13f064b92620ce56d0f9cb84bf11fe93e808a8c2b5", func := "gemel/gemellaw04.LacpduBack", spec := "lacpduBack", unfollowed := true, recurses := true, apart := false, narrowed := true }
def LacpduBackUptoSaid : Prop := lacpduBackUptoRow.holds Try.pinned (OpenSpec.upto lacpduBackSpec)

/-- 'gemellaw13.RxScripts', WHERE WHAT IT READS IS OF BULK AT MOST 1048576: true; the input reads as it did. -/
def rxScriptsUptoRow : OpenClaim := { program := "ytooieocfgifpgaa", sum := "33df6d73b4694416b9900b13f064b92620ce56d0f9cb84bf11fe93e808a8c2b5", func := "gemel/gemellaw13.RxScripts", spec := "rxScripts", apart := false, narrowed := true }
def RxScriptsUptoSaid : Prop := rxScriptsUptoRow.holds Try.pinned (OpenSpec.upto rxScriptsSpec)

/-- 'gemellaw13.RxForgets', WHERE WHAT IT READS IS OF BULK AT MOST 1048576: true; the input reads as it did. -/
def rxForgetsUptoRow : OpenClaim := { program := "ytooieocfgifpgaa", sum := "33df6d73b4694416b9900b13f064b92620ce56d0f9cb84bf11fe93e808a8c2b5", func := "gemel/gemellaw13.RxForgets", spec := "rxForgets", apart := false, narrowed := true }
def RxForgetsUptoSaid : Prop := rxForgetsUptoRow.holds Try.pinned (OpenSpec.upto rxForgetsSpec)

/-- 'gemellaw13.RxHears', WHERE WHAT IT READS IS OF BULK AT MOST 1048576: true; the input reads as it did. -/
def rxHearsUptoRow : OpenClaim := { program := "ytooieocfgifpgaa", sum := "33df6d73b4694416b9900b13f064b92620ce56d0f9cb84bf11fe93e808a8c2b5", func := "gemel/gemellaw13.RxHears", spec := "rxHears", apart := false, narrowed := true }
def RxHearsUptoSaid : Prop := rxHearsUptoRow.holds Try.pinned (OpenSpec.upto rxHearsSpec)

/-- 'gemellaw13.RxMeets', WHERE WHAT IT READS IS OF BULK AT MOST 1048576: true; the input reads as it did. -/
def rxMeetsUptoRow : OpenClaim := { program := "ytooieocfgifpgaa", sum := "33df6d73b4694416b9900b13f064b92620ce56d0f9cb84bf11fe93e808a8c2b5", func := "gemel/gemellaw13.RxMeets", spec := "rxMeets", apart := false, narrowed := true }
def RxMeetsUptoSaid : Prop := rxMeetsUptoRow.holds Try.pinned (OpenSpec.upto rxMeetsSpec)

/-- 'gemellaw13.RxDown', WHERE WHAT IT READS IS OF BULK AT MOST 1048576: true; the input reads as it did. -/
def rxDownUptoRow : OpenClaim := { program := "ytooieocfgifpgaa", sum := "33df6d73b4694416b9900b13f064b92620ce56d0f9cb84bf11fe93e808a8c2b5", func := "gemel/gemellaw13.RxDown", spec := "rxDown", apart := false, narrowed := true }
def RxDownUptoSaid : Prop := rxDownUptoRow.holds Try.pinned (OpenSpec.upto rxDownSpec)

end Rows
end Go.Proofs.Ytooieocfgifpgaa

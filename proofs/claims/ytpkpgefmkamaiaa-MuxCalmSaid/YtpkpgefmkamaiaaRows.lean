/-
  No cell of these rows narrows 'for every input' (looked for: loops, veiled, ifaces, maps, wideKeys, modest, calm, conditions, laid).
  DERIVED. THE GIVEN ROWS OF THIS SEAT. 5 by the template 'for every input the law returns true; each argument reads behind the call as it read before'; 0 by the template 'total and deterministic' (their statements: YtpkpgefmkamaiaaTotals.lean).
  GIVEN WITH THE SEED: the statements are not yours to turn. If you find one false, say at which input.
  Laid BY PROGRAM, IN A SANDBOX (cutbox-rows.mjs): the forced cells as the released guide's own fill.sh prints them over the translation 6bb80484b082a1ea… (all of the seat's roots in one cut). By AI agents, Wed Nov 11 2026. No macro, syntax, notation, axiom, sorry.
-/
import Derived.Test.YtpkpgefmkamaiaaChecked
import GoSem.Claim
import GoSem.ClaimJoined
import GoSem.ClaimMapViews
import Derived.JoinedTies
import Derived.KernelRfl
namespace Go.Proofs.Ytpkpgefmkamaiaa
/- THE CELL 'sum', in the pinned program and in every row, IS THE sha256 OF THE DUMP (.gsa) THAT YtpkpgefmkamaiaaProg.lean LOADS. Nothing in Lean hashes anything: it is a label: what it is worth is what the hold of that sum in a sandbox is worth. -/
noncomputable def Try.pinned : Pinned := { name := "ytpkpgefmkamaiaa", sum := "6bb80484b082a1eadf3879d8d399f81b1afb82527099f9ac3ba84dd60bad1c31", checked := Try.checked }
namespace Rows
def none {H : Type} : Left H := { results := [], args := [] }

/-- 'gemellaw14.MuxScripts': WHATEVER THE INPUT: true; the input reads as it did. -/
def muxScriptsSpec : ChangeSpec := { name := "muxScripts", fn := fun _ => fun
  | [d] => { results := [.lit (.bool true)], args := [d] }
  | _ => none }
def muxScriptsRow : OpenClaim := { program := "ytpkpgefmkamaiaa", sum := "6bb80484b082a1eadf3879d8d399f81b1afb82527099f9ac3ba84dd60bad1c31", func := "gemel/gemellaw14.MuxScripts", spec := "muxScripts", unfollowed := true, recurses := true, apart := false }
def MuxScriptsSaid : Prop := muxScriptsRow.holds Try.pinned (OpenSpec.ofChange muxScriptsSpec)

/-- ITS FALSE NEIGHBOUR: 'it returns false'. Refute it at one input. -/
def muxScriptsWrong : ChangeSpec := { name := "muxScripts", fn := fun _ => fun
  | [d] => { results := [.lit (.bool false)], args := [d] }
  | _ => none }
def MuxScriptsWrongFalsely : Prop := muxScriptsRow.holds Try.pinned (OpenSpec.ofChange muxScriptsWrong)

/-- 'gemellaw14.MuxSends': WHATEVER THE INPUT: true; the input reads as it did. -/
def muxSendsSpec : ChangeSpec := { name := "muxSends", fn := fun _ => fun
  | [d1, d2] => { results := [.lit (.bool true)], args := [d1, d2] }
  | _ => none }
def muxSendsRow : OpenClaim := { program := "ytpkpgefmkamaiaa", sum := "6bb80484b082a1eadf3879d8d399f81b1afb82527099f9ac3ba84dd60bad1c31", func := "gemel/gemellaw14.MuxSends", spec := "muxSends", unfollowed := true, recurses := true, apart := false }
def MuxSendsSaid : Prop := muxSendsRow.holds Try.pinned (OpenSpec.ofChange muxSendsSpec)

/-- ITS FALSE NEIGHBOUR: 'it returns false'. Refute it at one input. -/
def muxSendsWrong : ChangeSpec := { name := "muxSends", fn := fun _ => fun
  | [d1, d2] => { results := [.lit (.bool false)], args := [d1, d2] }
  | _ => none }
def MuxSendsWrongFalsely : Prop := muxSendsRow.holds Try.pinned (OpenSpec.ofChange muxSendsWrong)

/-- 'gemellaw14.MuxRises': WHATEVER THE INPUT: true; the input reads as it did. -/
def muxRisesSpec : ChangeSpec := { name := "muxRises", fn := fun _ => fun
  | [d1, d2, d3] => { results := [.lit (.bool true)], args := [d1, d2, d3] }
  | _ => none }
def muxRisesRow : OpenClaim := { program := "ytpkpgefmkamaiaa", sum := "6bb80484b082a1eadf3879d8d399f81b1afb82527099f9ac3ba84dd60bad1c31", func := "gemel/gemellaw14.MuxRises", spec := "muxRises", unfollowed := true, recurses := true, apart := false }
def MuxRisesSaid : Prop := muxRisesRow.holds Try.pinned (OpenSpec.ofChange muxRisesSpec)

/-- ITS FALSE NEIGHBOUR: 'it returns false'. Refute it at one input. -/
def muxRisesWrong : ChangeSpec := { name := "muxRises", fn := fun _ => fun
  | [d1, d2, d3] => { results := [.lit (.bool false)], args := [d1, d2, d3] }
  | _ => none }
def MuxRisesWrongFalsely : Prop := muxRisesRow.holds Try.pinned (OpenSpec.ofChange muxRisesWrong)

/-- 'gemellaw14.MuxCalm': WHATEVER THE INPUT: true; the input reads as it did. -/
def muxCalmSpec : ChangeSpec := { name := "muxCalm", fn := fun _ => fun
  | [d1, d2] => { results := [.lit (.bool true)], args := [d1, d2] }
  | _ => none }
def muxCalmRow : OpenClaim := { program := "ytpkpgefmkamaiaa", sum := "6bb80484b082a1eadf3879d8d399f81b1afb82527099f9ac3ba84dd60bad1c31", func := "gemel/gemellaw14.MuxCalm", spec := "muxCalm", unfollowed := true, recurses := true, apart := false }
def MuxCalmSaid : Prop := muxCalmRow.holds Try.pinned (OpenSpec.ofChange muxCalmSpec)

/-- ITS FALSE NEIGHBOUR: 'it returns false'. Refute it at one input. -/
def muxCalmWrong : ChangeSpec := { name := "muxCalm", fn := fun _ => fun
  | [d1, d2] => { results := [.lit (.bool false)], args := [d1, d2] }
  | _ => none }
def MuxCalmWrongFalsely : Prop := muxCalmRow.holds Try.pinned (OpenSpec.ofChange muxCalmWrong)

/-- 'gemellaw14.MuxTells': WHATEVER THE INPUT: true; the input reads as it did. -/
def muxTellsSpec : ChangeSpec := { name := "muxTells", fn := fun _ => fun
  | [d] => { results := [.lit (.bool true)], args := [d] }
  | _ => none }
def muxTellsRow : OpenClaim := { program := "ytpkpgefmkamaiaa", sum := "6bb80484b082a1eadf3879d8d399f81b1afb82527099f9ac3ba84dd60bad1c31", func := "gemel/gemellaw14.MuxTells", spec := "muxTells", unfollowed := true, recurses := true, apart := false }
def MuxTellsSaid : Prop := muxTellsRow.holds Try.pinned (OpenSpec.ofChange muxTellsSpec)

/-- ITS FALSE NEIGHBOUR: 'it returns false'. Refute it at one input. -/
def muxTellsWrong : ChangeSpec := { name := "muxTells", fn := fun _ => fun
  | [d] => { results := [.lit (.bool false)], args := [d] }
  | _ => none }
def MuxTellsWrongFalsely : Prop := muxTellsRow.holds Try.pinned (OpenSpec.ofChange muxTellsWrong)

/- THE SECOND FORM. 'bulk': how many values and letters a reading holds, each counted each time it is reached (what is shared counts as often as it is met; a slice's spare places count too). A statement '..UptoSaid' is the law's where the arguments, and the package variables that the reading takes, are together of bulk at most 1048576: NARROWER than '..Said'. Prove '..Said' where nothing that the law and all that it calls make is longer than what came in: it says more and counts as full. Else prove '..UptoSaid'. A law counts once. -/
mutual
def uptoBulk {H : Type} : DataW H → Nat
  | .lit (.string bytes) => bytes.length + 1
  | .lit _ => 1
  | .nil => 1
  | .ptr d => uptoBulk d + 1
  | .slice elems spare => uptoBulkAll elems + uptoBulkAll spare + 1
  | .agg parts => uptoBulkAll parts + 1
  | .iface _ d => uptoBulk d + 1
  | .map entries => uptoBulkEntries entries + 1
  | .held _ => 1
def uptoBulkAll {H : Type} : List (DataW H) → Nat
  | [] => 0
  | d :: r => uptoBulk d + uptoBulkAll r
def uptoBulkEntries {H : Type} : List (Lit × DataW H) → Nat
  | [] => 0
  | x :: r => uptoBulkEntry x + uptoBulkEntries r
def uptoBulkEntry {H : Type} : Lit × DataW H → Nat
  | (.string bytes, d) => bytes.length + uptoBulk d + 1
  | (_, d) => uptoBulk d + 1
 end
def uptoSmall : (H : Type) → List (DataW H) → Bool := fun _ ds => decide (uptoBulkAll ds ≤ 1048576)
def OpenSpec.upto (s : _root_.Go.ChangeSpec) : _root_.Go.OpenSpec := { _root_.Go.OpenSpec.ofChange s with cond := some uptoSmall }

/-- 'gemellaw14.MuxScripts', WHERE WHAT IT READS IS OF BULK AT MOST 1048576: true; the input reads as it did. -/
def muxScriptsUptoRow : OpenClaim := { program := "ytpkpgefmkamaiaa", sum := "6bb80484b082a1eadf3879d8d399f81b1afb82527099f9ac3ba84dd60bad1c31", func := "gemel/gemellaw14.MuxScripts", spec := "muxScripts", unfollowed := true, recurses := true, apart := false, narrowed := true }
def MuxScriptsUptoSaid : Prop := muxScriptsUptoRow.holds Try.pinned (OpenSpec.upto muxScriptsSpec)

/-- 'gemellaw14.MuxSends', WHERE WHAT IT READS IS OF BULK AT MOST 1048576: true; the input reads as it did. -/
def muxSendsUptoRow : OpenClaim := { program := "ytpkpgefmkamaiaa", sum := "6bb80484b082a1eadf3879d8d399f81b1afb82527099f9ac3ba84dd60bad1c31", func := "gemel/gemellaw14.MuxSends", spec := "muxSends", unfollowed := true, recurses := true, apart := false, narrowed := true }
def MuxSendsUptoSaid : Prop := muxSendsUptoRow.holds Try.pinned (OpenSpec.upto muxSendsSpec)

/-- 'gemellaw14.MuxRises', WHERE WHAT IT READS IS OF BULK AT MOST 1048576: true; the input reads as it did. -/
def muxRisesUptoRow : OpenClaim := { program := "ytpkpgefmkamaiaa", sum := "6bb80484b082a1eadf3879d8d399f81b1afb82527099f9ac3ba84dd60bad1c31", func := "gemel/gemellaw14.MuxRises", spec := "muxRises", unfollowed := true, recurses := true, apart := false, narrowed := true }
def MuxRisesUptoSaid : Prop := muxRisesUptoRow.holds Try.pinned (OpenSpec.upto muxRisesSpec)

/-- 'gemellaw14.MuxCalm', WHERE WHAT IT READS IS OF BULK AT MOST 1048576: true; the input reads as it did. -/
def muxCalmUptoRow : OpenClaim := { program := "ytpkpgefmkamaiaa", sum := "6bb80484b082a1eadf3879d8d399f81b1afb82527099f9ac3ba84dd60bad1c31", func := "gemel/gemellaw14.MuxCalm", spec := "muxCalm", unfollowed := true, recurses := true, apart := false, narrowed := true }
def MuxCalmUptoSaid : Prop := muxCalmUptoRow.holds Try.pinned (OpenSpec.upto muxCalmSpec)

/-- 'gemellaw14.MuxTells', WHERE WHAT IT READS IS OF BULK AT MOST 1048576: true; the input reads as it did. -/
def muxTellsUptoRow : OpenClaim := { program := "ytpkpgefmkamaiaa", sum := "6bb80484b082a1eadf3879d8d399f81b1afb82527099f9ac3ba84dd60bad1c31", func := "gemel/gemellaw14.MuxTells", spec := "muxTells", unfollowed := true, recurses := true, apart := false, narrowed := true }
def MuxTellsUptoSaid : Prop := muxTellsUptoRow.holds Try.pinned (OpenSpec.upto muxTellsSpec)

end Rows
end Go.Proofs.Ytpkpgefmkamaiaa

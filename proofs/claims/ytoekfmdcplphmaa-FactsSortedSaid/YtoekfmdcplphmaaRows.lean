/-
  No cell of these rows narrows 'for every input' (looked for: loops, veiled, ifaces, maps, wideKeys, modest, calm, conditions, laid).
  DERIVED. THE GIVEN ROWS OF THIS SEAT. 4 by the template 'for every input the law returns true; each argument reads behind the call as it read before'; 0 by the template 'total and deterministic' (their statements: YtoekfmdcplphmaaTotals.lean).
  GIVEN WITH THE SEED: the statements are not yours to turn. If you find one false, say at which input.
  Laid BY PROGRAM, IN A SANDBOX (cutbox-rows.mjs): the forced cells as the released guide's own fill.sh prints them over the translation fc4f0ad3230d2922… (all of the seat's roots in one cut). By AI agents, Wed Nov 11 2026. No macro, syntax, notation, axiom, sorry.
-/
import Derived.Test.YtoekfmdcplphmaaChecked
import GoSem.Claim
import GoSem.ClaimJoined
import GoSem.ClaimMapViews
import Derived.JoinedTies
import Derived.KernelRfl
namespace Go.Proofs.Ytoekfmdcplphmaa
/- THE CELL 'sum', in the pinned program and in every row, IS THE sha256 OF THE DUMP (.gsa) THAT YtoekfmdcplphmaaProg.lean LOADS. Nothing in Lean hashes anything: it is a label: what it is worth is what the hold of that sum in a sandbox is worth. -/
noncomputable def Try.pinned : Pinned := { name := "ytoekfmdcplphmaa", sum := "fc4f0ad3230d2922d066ef3bd4707606da3dd258d7bd2358e4a883529fe3b4ec", checked := Try.checked }
namespace Rows
def none {H : Type} : Left H := { results := [], args := [] }

/-- 'lambrequinlaw21.FactsTell': WHATEVER THE INPUT: true; the input reads as it did. -/
def factsTellSpec : ChangeSpec := { name := "factsTell", fn := fun _ => fun
  | [d1, d2, d3, d4] => { results := [.lit (.bool true)], args := [d1, d2, d3, d4] }
  | _ => none }
def factsTellRow : OpenClaim := { program := "ytoekfmdcplphmaa", sum := "fc4f0ad3230d2922d066ef3bd4707606da3dd258d7bd2358e4a883529fe3b4ec", func := "lambrequin/lambrequinlaw21.FactsTell", spec := "factsTell", unfollowed := true, recurses := true, apart := false }
def FactsTellSaid : Prop := factsTellRow.holds Try.pinned (OpenSpec.ofChange factsTellSpec)

/-- ITS FALSE NEIGHBOUR: 'it returns false'. Refute it at one input. -/
def factsTellWrong : ChangeSpec := { name := "factsTell", fn := fun _ => fun
  | [d1, d2, d3, d4] => { results := [.lit (.bool false)], args := [d1, d2, d3, d4] }
  | _ => none }
def FactsTellWrongFalsely : Prop := factsTellRow.holds Try.pinned (OpenSpec.ofChange factsTellWrong)

/-- 'lambrequinlaw21.FactsFlow': WHATEVER THE INPUT: true; the input reads as it did. -/
def factsFlowSpec : ChangeSpec := { name := "factsFlow", fn := fun _ => fun
  | [d1, d2, d3, d4] => { results := [.lit (.bool true)], args := [d1, d2, d3, d4] }
  | _ => none }
def factsFlowRow : OpenClaim := { program := "ytoekfmdcplphmaa", sum := "fc4f0ad3230d2922d066ef3bd4707606da3dd258d7bd2358e4a883529fe3b4ec", func := "lambrequin/lambrequinlaw21.FactsFlow", spec := "factsFlow", unfollowed := true, recurses := true, apart := false }
def FactsFlowSaid : Prop := factsFlowRow.holds Try.pinned (OpenSpec.ofChange factsFlowSpec)

/-- ITS FALSE NEIGHBOUR: 'it returns false'. Refute it at one input. -/
def factsFlowWrong : ChangeSpec := { name := "factsFlow", fn := fun _ => fun
  | [d1, d2, d3, d4] => { results := [.lit (.bool false)], args := [d1, d2, d3, d4] }
  | _ => none }
def FactsFlowWrongFalsely : Prop := factsFlowRow.holds Try.pinned (OpenSpec.ofChange factsFlowWrong)

/-- 'lambrequinlaw21.FactsSorted': WHATEVER THE INPUT: true; the input reads as it did. -/
def factsSortedSpec : ChangeSpec := { name := "factsSorted", fn := fun _ => fun
  | [d] => { results := [.lit (.bool true)], args := [d] }
  | _ => none }
def factsSortedRow : OpenClaim := { program := "ytoekfmdcplphmaa", sum := "fc4f0ad3230d2922d066ef3bd4707606da3dd258d7bd2358e4a883529fe3b4ec", func := "lambrequin/lambrequinlaw21.FactsSorted", spec := "factsSorted", unfollowed := true, recurses := true, apart := false }
def FactsSortedSaid : Prop := factsSortedRow.holds Try.pinned (OpenSpec.ofChange factsSortedSpec)

/-- ITS FALSE NEIGHBOUR: 'it returns false'. Refute it at one input. -/
def factsSortedWrong : ChangeSpec := { name := "factsSorted", fn := fun _ => fun
  | [d] => { results := [.lit (.bool false)], args := [d] }
  | _ => none }
def FactsSortedWrongFalsely : Prop := factsSortedRow.holds Try.pinned (OpenSpec.ofChange factsSortedWrong)

/-- 'lambrequinlaw21.FactsMore': WHATEVER THE INPUT: true; the input reads as it did. -/
def factsMoreSpec : ChangeSpec := { name := "factsMore", fn := fun _ => fun
  | [d1, d2] => { results := [.lit (.bool true)], args := [d1, d2] }
  | _ => none }
def factsMoreRow : OpenClaim := { program := "ytoekfmdcplphmaa", sum := "fc4f0ad3230d2922d066ef3bd4707606da3dd258d7bd2358e4a883529fe3b4ec", func := "lambrequin/lambrequinlaw21.FactsMore", spec := "factsMore", unfollowed := true, recurses := true, apart := false }
def FactsMoreSaid : Prop := factsMoreRow.holds Try.pinned (OpenSpec.ofChange factsMoreSpec)

/-- ITS FALSE NEIGHBOUR: 'it returns false'. Refute it at one input. -/
def factsMoreWrong : ChangeSpec := { name := "factsMore", fn := fun _ => fun
  | [d1, d2] => { results := [.lit (.bool false)], args := [d1, d2] }
  | _ => none }
def FactsMoreWrongFalsely : Prop := factsMoreRow.holds Try.pinned (OpenSpec.ofChange factsMoreWrong)

/- THE SECOND FORM. 'bulk': how many values and letters a reading holds, each counted each time it is reached (what is shared counts as often as it is met; a slice's spare places count too). A statement '..UptoSaid' is the law's where the arguments, and the package variables that the reading takes, are together of bulk at most 1048576: NARROWER than '..Said'. Prove '..Said' where nothing that the law and all that it calls make is longer than what came in: it says more and counts as full. Else prove '..UptoSaid'. A law counts once. -/
mutual
def uptoBulk {H : Type} : DataW H → Nat
  | .lit (.string bytes) => bytes.length + 1
  | .lit _ => 1
  | .nil => 1
  | .ptr d => uptoBulk d + 1
  | .slice elems spare => uptoBulkAll elems + uptoBulkAll spare + 1
  | .agg parts => uptoBulkAll parts + 1
  | .iface _ d => uptoBulk d + 1
  | .map entries => uptoBulkEntries entries + 1
  | .held _ => 1
def uptoBulkAll {H : Type} : List (DataW H) → Nat
  | [] => 0
  | d :: r => uptoBulk d + uptoBulkAll r
def uptoBulkEntries {H : Type} : List (Lit × DataW H) → Nat
  | [] => 0
  | x :: r => uptoBulkEntry x + uptoBulkEntries r
def uptoBulkEntry {H : Type} : Lit × DataW H → Nat
  | (.string bytes, d) => bytes.length + uptoBulk d + 1
  | (_, d) => uptoBulk d + 1
 end
def uptoSmall : (H : Type) → List (DataW H) → Bool := fun _ ds => decide (uptoBulkAll ds ≤ 1048576)
def OpenSpec.upto (s : _root_.Go.ChangeSpec) : _root_.Go.OpenSpec := { _root_.Go.OpenSpec.ofChange s with cond := some uptoSmall }

/-- 'lambrequinlaw21.FactsTell', WHERE WHAT IT READS IS OF BULK AT MOST 1048576: true; the input reads as it did. -/
def factsTellUptoRow : OpenClaim := { program := "ytoekfmdcplphmaa", sum := "fc4f0ad3230d2922d066ef3bd4707606da3dd258d7bd2358e4a883529fe3b4ec", func := "lambrequin/lambrequinlaw21.FactsTell", spec := "factsTell", unfollowed := true, recurses := true, apart := false, narrowed := true }
def FactsTellUptoSaid : Prop := factsTellUptoRow.holds Try.pinned (OpenSpec.upto factsTellSpec)

/-- 'lambrequinlaw21.FactsFlow', WHERE WHAT IT READS IS OF BULK AT MOST 1048576: true; the input reads as it did. -/
def factsFlowUptoRow : OpenClaim := { program := "ytoekfmdcplphmaa", sum := "fc4f0ad3230d2922d066ef3bd4707606da3dd258d7bd2358e4a883529fe3b4ec", func := "lambrequin/lambrequinlaw21.FactsFlow", spec := "factsFlow", unfollowed := true, recurses := true, apart := false, narrowed := true }
def FactsFlowUptoSaid : Prop := factsFlowUptoRow.holds Try.pinned (OpenSpec.upto factsFlowSpec)

/-- 'lambrequinlaw21.FactsSorted', WHERE WHAT IT READS IS OF BULK AT MOST 1048576: true; the input reads as it did. -/
def factsSortedUptoRow : OpenClaim := { program := "ytoekfmdcplphmaa", sum := "fc4f0ad3230d2922d066ef3bd4707606da3dd258d7bd2358e4a883529fe3b4ec", func := "lambrequin/lambrequinlaw21.FactsSorted", spec := "factsSorted", unfollowed := true, recurses := true, apart := false, narrowed := true }
def FactsSortedUptoSaid : Prop := factsSortedUptoRow.holds Try.pinned (OpenSpec.upto factsSortedSpec)

/-- 'lambrequinlaw21.FactsMore', WHERE WHAT IT READS IS OF BULK AT MOST 1048576: true; the input reads as it did. -/
def factsMoreUptoRow : OpenClaim := { program := "ytoekfmdcplphmaa", sum := "fc4f0ad3230d2922d066ef3bd4707606da3dd258d7bd2358e4a883529fe3b4ec", func := "lambrequin/lambrequinlaw21.FactsMore", spec := "factsMore", unfollowed := true, recurses := true, apart := false, narrowed := true }
def FactsMoreUptoSaid : Prop := factsMoreUptoRow.holds Try.pinned (OpenSpec.upto factsMoreSpec)

end Rows
end Go.Proofs.Ytoekfmdcplphmaa

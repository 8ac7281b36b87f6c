/-
  No cell of these rows narrows 'for every input' (looked for: loops, veiled, ifaces, maps, wideKeys, modest, calm, conditions, laid).
  DERIVED. THE GIVEN ROWS OF THIS SEAT. 11 by the template 'for every input the law returns true; each argument reads behind the call as it read before'; 0 by the template 'total and deterministic' (their statements: YtmlhnjonmjmhdaaTotals.lean).
  GIVEN WITH THE SEED: the statements are not yours to turn. If you find one false, say at which input.
  Laid BY PROGRAM, IN A SANDBOX (cutbox-rows.mjs): the forced cells as the released guide's own fill.sh prints them over the translation a7017e18c27cf3ee… (all of the seat's roots in one cut). By AI agents, Wed Nov 11 2026. No macro, syntax, notation, axiom, sorry.
-/
import Derived.Test.YtmlhnjonmjmhdaaChecked
import GoSem.Claim
import GoSem.ClaimJoined
import GoSem.ClaimMapViews
import Derived.JoinedTies
import Derived.KernelRfl
namespace Go.Proofs.Ytmlhnjonmjmhdaa
/- THE CELL 'sum', in the pinned program and in every row, IS THE sha256 OF THE DUMP (.gsa) THAT YtmlhnjonmjmhdaaProg.lean LOADS. Nothing in Lean hashes anything: it is a label: what it is worth is what the hold of that sum in a sandbox is worth. -/
noncomputable def Try.pinned : Pinned := { name := "ytmlhnjonmjmhdaa", sum := "a7017e18c27cf3ee0ab9c7a8ca1c31d18e86267b9f706db13ae799df7abb687a", checked := Try.checked }
namespace Rows
def none {H : Type} : Left H := { results := [], args := [] }

/-- 'lambrequinlaw10.GraphOrder': WHATEVER THE INPUT: true; the input reads as it did. -/
def graphOrderSpec : ChangeSpec := { name := "graphOrder", fn := fun _ => fun
  | [d1, d2, d3, d4] => { results := [.lit (.bool true)], args := [d1, d2, d3, d4] }
  | _ => none }
def graphOrderRow : OpenClaim := { program := "ytmlhnjonmjmhdaa", sum := "a7017e18c27cf3ee0ab9c7a8ca1c31d18e86267b9f706db13ae799df7abb687a", func := "lambrequin/lambrequinlaw10.GraphOrder", spec := "graphOrder", unfollowed := true, recurses := true, apart := false }
def GraphOrderSaid : Prop := graphOrderRow.holds Try.pinned (OpenSpec.ofChange graphOrderSpec)

/-- ITS FALSE NEIGHBOUR: 'it returns false'. Refute it at one input. -/
def graphOrderWrong : ChangeSpec := { name := "graphOrder", fn := fun _ => fun
  | [d1, d2, d3, d4] => { results := [.lit (.bool false)], args := [d1, d2, d3, d4] }
  | _ => none }
def GraphOrderWrongFalsely : Prop := graphOrderRow.holds Try.pinned (OpenSpec.ofChange graphOrderWrong)

/-- 'lambrequinlaw10.GraphTells': WHATEVER THE INPUT: true; the input reads as it did. -/
def graphTellsSpec : ChangeSpec := { name := "graphTells", fn := fun _ => fun
  | [d1, d2, d3, d4] => { results := [.lit (.bool true)], args := [d1, d2, d3, d4] }
  | _ => none }
def graphTellsRow : OpenClaim := { program := "ytmlhnjonmjmhdaa", sum := "a7017e18c27cf3ee0ab9c7a8ca1c31d18e86267b9f706db13ae799df7abb687a", func := "lambrequin/lambrequinlaw10.GraphTells", spec := "graphTells", unfollowed := true, recurses := true, apart := false }
def GraphTellsSaid : Prop := graphTellsRow.holds Try.pinned (OpenSpec.ofChange graphTellsSpec)

/-- ITS FALSE NEIGHBOUR: 'it returns false'. Refute it at one input. -/
def graphTellsWrong : ChangeSpec := { name := "graphTells", fn := fun _ => fun
  | [d1, d2, d3, d4] => { results := [.lit (.bool false)], args := [d1, d2, d3, d4] }
  | _ => none }
def GraphTellsWrongFalsely : Prop := graphTellsRow.holds Try.pinned (OpenSpec.ofChange graphTellsWrong)

/-- 'lambrequinlaw10.GraphParts': WHATEVER THE INPUT: true; the input reads as it did. -/
def graphPartsSpec : ChangeSpec := { name := "graphParts", fn := fun _ => fun
  | [d1, d2] => { results := [.lit (.bool true)], args := [d1, d2] }
  | _ => none }
def graphPartsRow : OpenClaim := { program := "ytmlhnjonmjmhdaa", sum := "a7017e18c27cf3ee0ab9c7a8ca1c31d18e86267b9f706db13ae799df7abb687a", func := "lambrequin/lambrequinlaw10.GraphParts", spec := "graphParts", unfollowed := true, recurses := true, apart := false }
def GraphPartsSaid : Prop := graphPartsRow.holds Try.pinned (OpenSpec.ofChange graphPartsSpec)

/-- ITS FALSE NEIGHBOUR: 'it returns false'. Refute it at one input. -/
def graphPartsWrong : ChangeSpec := { name := "graphParts", fn := fun _ => fun
  | [d1, d2] => { results := [.lit (.bool false)], args := [d1, d2] }
  | _ => none }
def GraphPartsWrongFalsely : Prop := graphPartsRow.holds Try.pinned (OpenSpec.ofChange graphPartsWrong)

/-- 'lambrequinlaw10.GraphPaths': WHATEVER THE INPUT: true; the input reads as it did. -/
def graphPathsSpec : ChangeSpec := { name := "graphPaths", fn := fun _ => fun
  | [d1, d2, d3, d4] => { results := [.lit (.bool true)], args := [d1, d2, d3, d4] }
  | _ => none }
def graphPathsRow : OpenClaim := { program := "ytmlhnjonmjmhdaa", sum := "a7017e18c27cf3ee0ab9c7a8ca1c31d18e86267b9f706db13ae799df7abb687a", func := "lambrequin/lambrequinlaw10.GraphPaths", spec := "graphPaths", unfollowed := true, recurses := true, apart := false }
def GraphPathsSaid : Prop := graphPathsRow.holds Try.pinned (OpenSpec.ofChange graphPathsSpec)

/-- ITS FALSE NEIGHBOUR: 'it returns false'. Refute it at one input. -/
def graphPathsWrong : ChangeSpec := { name := "graphPaths", fn := fun _ => fun
  | [d1, d2, d3, d4] => { results := [.lit (.bool false)], args := [d1, d2, d3, d4] }
  | _ => none }
def GraphPathsWrongFalsely : Prop := graphPathsRow.holds Try.pinned (OpenSpec.ofChange graphPathsWrong)

/-- 'lambrequinlaw10.GraphMore': WHATEVER THE INPUT: true; the input reads as it did. -/
def graphMoreSpec : ChangeSpec := { name := "graphMore", fn := fun _ => fun
  | [d1, d2, d3, d4] => { results := [.lit (.bool true)], args := [d1, d2, d3, d4] }
  | _ => none }
def graphMoreRow : OpenClaim := { program := "ytmlhnjonmjmhdaa", sum := "a7017e18c27cf3ee0ab9c7a8ca1c31d18e86267b9f706db13ae799df7abb687a", func := "lambrequin/lambrequinlaw10.GraphMore", spec := "graphMore", unfollowed := true, recurses := true, apart := false }
def GraphMoreSaid : Prop := graphMoreRow.holds Try.pinned (OpenSpec.ofChange graphMoreSpec)

/-- ITS FALSE NEIGHBOUR: 'it returns false'. Refute it at one input. -/
def graphMoreWrong : ChangeSpec := { name := "graphMore", fn := fun _ => fun
  | [d1, d2, d3, d4] => { results := [.lit (.bool false)], args := [d1, d2, d3, d4] }
  | _ => none }
def GraphMoreWrongFalsely : Prop := graphMoreRow.holds Try.pinned (OpenSpec.ofChange graphMoreWrong)

/-- 'lambrequinlaw10.GraphThrough': WHATEVER THE INPUT: true; the input reads as it did. -/
def graphThroughSpec : ChangeSpec := { name := "graphThrough", fn := fun _ => fun
  | [d1, d2, d3, d4] => { results := [.lit (.bool true)], args := [d1, d2, d3, d4] }
  | _ => none }
def graphThroughRow : OpenClaim := { program := "ytmlhnjonmjmhdaa", sum := "a7017e18c27cf3ee0ab9c7a8ca1c31d18e86267b9f706db13ae799df7abb687a", func := "lambrequin/lambrequinlaw10.GraphThrough", spec := "graphThrough", unfollowed := true, recurses := true, apart := false }
def GraphThroughSaid : Prop := graphThroughRow.holds Try.pinned (OpenSpec.ofChange graphThroughSpec)

/-- ITS FALSE NEIGHBOUR: 'it returns false'. Refute it at one input. -/
def graphThroughWrong : ChangeSpec := { name := "graphThrough", fn := fun _ => fun
  | [d1, d2, d3, d4] => { results := [.lit (.bool false)], args := [d1, d2, d3, d4] }
  | _ => none }
def GraphThroughWrongFalsely : Prop := graphThroughRow.holds Try.pinned (OpenSpec.ofChange graphThroughWrong)

/-- 'lambrequinlaw11.StrataTells': WHATEVER THE INPUT: true; the input reads as it did. -/
def strataTellsSpec : ChangeSpec := { name := "strataTells", fn := fun _ => fun
  | [d] => { results := [.lit (.bool true)], args := [d] }
  | _ => none }
def strataTellsRow : OpenClaim := { program := "ytmlhnjonmjmhdaa", sum := "a7017e18c27cf3ee0ab9c7a8ca1c31d18e86267b9f706db13ae799df7abb687a", func := "lambrequin/lambrequinlaw11.StrataTells", spec := "strataTells", unfollowed := true, recurses := true, apart := false }
def StrataTellsSaid : Prop := strataTellsRow.holds Try.pinned (OpenSpec.ofChange strataTellsSpec)

/-- ITS FALSE NEIGHBOUR: 'it returns false'. Refute it at one input. -/
def strataTellsWrong : ChangeSpec := { name := "strataTells", fn := fun _ => fun
  | [d] => { results := [.lit (.bool false)], args := [d] }
  | _ => none }
def StrataTellsWrongFalsely : Prop := strataTellsRow.holds Try.pinned (OpenSpec.ofChange strataTellsWrong)

/-- 'lambrequinlaw11.StrataLevels': WHATEVER THE INPUT: true; the input reads as it did. -/
def strataLevelsSpec : ChangeSpec := { name := "strataLevels", fn := fun _ => fun
  | [d] => { results := [.lit (.bool true)], args := [d] }
  | _ => none }
def strataLevelsRow : OpenClaim := { program := "ytmlhnjonmjmhdaa", sum := "a7017e18c27cf3ee0ab9c7a8ca1c31d18e86267b9f706db13ae799df7abb687a", func := "lambrequin/lambrequinlaw11.StrataLevels", spec := "strataLevels", unfollowed := true, recurses := true, apart := false }
def StrataLevelsSaid : Prop := strataLevelsRow.holds Try.pinned (OpenSpec.ofChange strataLevelsSpec)

/-- ITS FALSE NEIGHBOUR: 'it returns false'. Refute it at one input. -/
def strataLevelsWrong : ChangeSpec := { name := "strataLevels", fn := fun _ => fun
  | [d] => { results := [.lit (.bool false)], args := [d] }
  | _ => none }
def StrataLevelsWrongFalsely : Prop := strataLevelsRow.holds Try.pinned (OpenSpec.ofChange strataLevelsWrong)

/-- 'lambrequinlaw11.StrataLeast': WHATEVER THE INPUT: true; the input reads as it did. -/
def strataLeastSpec : ChangeSpec := { name := "strataLeast", fn := fun _ => fun
  | [d1, d2] => { results := [.lit (.bool true)], args := [d1, d2] }
  | _ => none }
def strataLeastRow : OpenClaim := { program := "ytmlhnjonmjmhdaa", sum := "a7017e18c27cf3ee0ab9c7a8ca1c31d18e86267b9f706db13ae799df7abb687a", func := "lambrequin/lambrequinlaw11.StrataLeast", spec := "strataLeast", unfollowed := true, recurses := true, apart := false }
def StrataLeastSaid : Prop := strataLeastRow.holds Try.pinned (OpenSpec.ofChange strataLeastSpec)

/-- ITS FALSE NEIGHBOUR: 'it returns false'. Refute it at one input. -/
def strataLeastWrong : ChangeSpec := { name := "strataLeast", fn := fun _ => fun
  | [d1, d2] => { results := [.lit (.bool false)], args := [d1, d2] }
  | _ => none }
def StrataLeastWrongFalsely : Prop := strataLeastRow.holds Try.pinned (OpenSpec.ofChange strataLeastWrong)

/-- 'lambrequinlaw11.StrataRings': WHATEVER THE INPUT: true; the input reads as it did. -/
def strataRingsSpec : ChangeSpec := { name := "strataRings", fn := fun _ => fun
  | [d] => { results := [.lit (.bool true)], args := [d] }
  | _ => none }
def strataRingsRow : OpenClaim := { program := "ytmlhnjonmjmhdaa", sum := "a7017e18c27cf3ee0ab9c7a8ca1c31d18e86267b9f706db13ae799df7abb687a", func := "lambrequin/lambrequinlaw11.StrataRings", spec := "strataRings", unfollowed := true, recurses := true, apart := false }
def StrataRingsSaid : Prop := strataRingsRow.holds Try.pinned (OpenSpec.ofChange strataRingsSpec)

/-- ITS FALSE NEIGHBOUR: 'it returns false'. Refute it at one input. -/
def strataRingsWrong : ChangeSpec := { name := "strataRings", fn := fun _ => fun
  | [d] => { results := [.lit (.bool false)], args := [d] }
  | _ => none }
def StrataRingsWrongFalsely : Prop := strataRingsRow.holds Try.pinned (OpenSpec.ofChange strataRingsWrong)

/-- 'lambrequinlaw11.StrataOrder': WHATEVER THE INPUT: true; the input reads as it did. -/
def strataOrderSpec : ChangeSpec := { name := "strataOrder", fn := fun _ => fun
  | [d1, d2] => { results := [.lit (.bool true)], args := [d1, d2] }
  | _ => none }
def strataOrderRow : OpenClaim := { program := "ytmlhnjonmjmhdaa", sum := "a7017e18c27cf3ee0ab9c7a8ca1c31d18e86267b9f706db13ae799df7abb687a", func := "lambrequin/lambrequinlaw11.StrataOrder", spec := "strataOrder", unfollowed := true, recurses := true, apart := false }
def StrataOrderSaid : Prop := strataOrderRow.holds Try.pinned (OpenSpec.ofChange strataOrderSpec)

/-- ITS FALSE NEIGHBOUR: 'it returns false'. Refute it at one input. -/
def strataOrderWrong : ChangeSpec := { name := "strataOrder", fn := fun _ => fun
  | [d1, d2] => { results := [.lit (.bool false)], args := [d1, d2] }
  | _ => none }
def StrataOrderWrongFalsely : Prop := strataOrderRow.holds Try.pinned (OpenSpec.ofChange strataOrderWrong)

/- THE SECOND FORM. 'bulk': how many values and letters a reading holds, each counted each time it is reached (what is shared counts as often as it is met; a slice's spare places count too). A statement '..UptoSaid' is the law's where the arguments, and the package variables that the reading takes, are together of bulk at most 1048576: NARROWER than '..Said'. Prove '..Said' where nothing that the law and all that it calls make is longer than what came in: it says more and counts as full. Else prove '..UptoSaid'. A law counts once. -/
mutual
def uptoBulk {H : Type} : DataW H → Nat
  | .lit (.string bytes) => bytes.length + 1
  | .lit _ => 1
  | .nil => 1
  | .ptr d => uptoBulk d + 1
  | .slice elems spare => uptoBulkAll elems + uptoBulkAll spare + 1
  | .agg parts => uptoBulkAll parts + 1
  | .iface _ d => uptoBulk d + 1
  | .map entries => uptoBulkEntries entries + 1
  | .held _ => 1
def uptoBulkAll {H : Type} : List (DataW H) → Nat
  | [] => 0
  | d :: r => uptoBulk d + uptoBulkAll r
def uptoBulkEntries {H : Type} : List (Lit × DataW H) → Nat
  | [] => 0
  | x :: r => uptoBulkEntry x + uptoBulkEntries r
def uptoBulkEntry {H : Type} : Lit × DataW H → Nat
  | (.string bytes, d) => bytes.length + uptoBulk d + 1
  | (_, d) => uptoBulk d + 1
 end
def uptoSmall : (H : Type) → List (DataW H) → Bool := fun _ ds => decide (uptoBulkAll ds ≤ 1048576)
def OpenSpec.upto (s : _root_.Go.ChangeSpec) : _root_.Go.OpenSpec := { _root_.Go.OpenSpec.ofChange s with cond := some uptoSmall }

/-- 'lambrequinlaw10.GraphOrder', WHERE WHAT IT READS IS OF BULK AT MOST 1048576: true; the input reads as it did. -/
def graphOrderUptoRow : OpenClaim := { program := "ytmlhnjonmjmhdaa", sum := "a7017e18c27cf3ee0ab9c7a8ca1c31d18e86267b9f706db13ae799df7abb687a", func := "lambrequin/lambrequinlaw10.GraphOrder", spec := "graphOrder", unfollowed := true, recurses := true, apart := false, narrowed := true }
def GraphOrderUptoSaid : Prop := graphOrderUptoRow.holds Try.pinned (OpenSpec.upto graphOrderSpec)

/-- 'lambrequinlaw10.GraphTells', WHERE WHAT IT READS IS OF BULK AT MOST 1048576: true; the input reads as it did. -/
def graphTellsUptoRow : OpenClaim := { program := "ytmlhnjonmjmhdaa", sum := "a7017e18c27cf3ee0ab9c7a8ca1c31d18e86267b9f706db13ae799df7abb687a", func := "lambrequin/lambrequinlaw10.GraphTells", spec := "graphTells", unfollowed := true, recurses := true, apart := false, narrowed := true }
def GraphTellsUptoSaid : Prop := graphTellsUptoRow.holds Try.pinned (OpenSpec.upto graphTellsSpec)

/-- 'lambrequinlaw10.GraphParts', WHERE WHAT IT READS IS OF BULK AT MOST 1048576: true; the input reads as it did. -/
def graphPartsUptoRow : OpenClaim := { program := "ytmlhnjonmjmhdaa", sum := "a7017e18c27cf3ee0ab9c7a8ca1c31d18e86267b9f706db13ae799df7abb687a", func := "lambrequin/lambrequinlaw10.GraphParts", spec := "graphParts", unfollowed := true, recurses := true, apart := false, narrowed := true }
def GraphPartsUptoSaid : Prop := graphPartsUptoRow.holds Try.pinned (OpenSpec.upto graphPartsSpec)

/-- 'lambrequinlaw10.GraphPaths', WHERE WHAT IT READS IS OF BULK AT MOST 1048576: true; the input reads as it did. -/
def graphPathsUptoRow : OpenClaim := { program := "ytmlhnjonmjmhdaa", sum := "a7017e18c27cf3ee0ab9c7a8ca1c31d18e86267b9f706db13ae799df7abb687a", func := "lambrequin/lambrequinlaw10.GraphPaths", spec := "graphPaths", unfollowed := true, recurses := true, apart := false, narrowed := true }
def GraphPathsUptoSaid : Prop := graphPathsUptoRow.holds Try.pinned (OpenSpec.upto graphPathsSpec)

/-- 'lambrequinlaw10.GraphMore', WHERE WHAT IT READS IS OF BULK AT MOST 1048576: true; the input reads as it did. -/
def graphMoreUptoRow : OpenClaim := { program := "ytmlhnjonmjmhdaa", sum := "a7017e18c27cf3ee0ab9c7a8ca1c31d18e86267b9f706db13ae799df7abb687a", func := "lambrequin/lambrequinlaw10.GraphMore", spec := "graphMore", unfollowed := true, recurses := true, apart := false, narrowed := true }
def GraphMoreUptoSaid : Prop := graphMoreUptoRow.holds Try.pinned (OpenSpec.upto graphMoreSpec)

/-- 'lambrequinlaw10.GraphThrough', WHERE WHAT IT READS IS OF BULK AT MOST 1048576: true; the input reads as it did. -/
def graphThroughUptoRow : OpenClaim := { program := "ytmlhnjonmjmhdaa", sum := "a7017e18c27cf3ee0ab9c7a8ca1c31d18e86267b9f706db13ae799df7abb687a", func := "lambrequin/lambrequinlaw10.GraphThrough", spec := "graphThrough", unfollowed := true, recurses := true, apart := false, narrowed := true }
def GraphThroughUptoSaid : Prop := graphThroughUptoRow.holds Try.pinned (OpenSpec.upto graphThroughSpec)

/-- 'lambrequinlaw11.StrataTells', WHERE WHAT IT READS IS OF BULK AT MOST 1048576: true; the input reads as it did. -/
def strataTellsUptoRow : OpenClaim := { program := "ytmlhnjonmjmhdaa", sum := "a7017e18c27cf3ee0ab9c7a8ca1c31d18e86267b9f706db13ae799df7abb687a", func := "lambrequin/lambrequinlaw11.StrataTells", spec := "strataTells", unfollowed := true, recurses := true, apart := false, narrowed := true }
def StrataTellsUptoSaid : Prop := strataTellsUptoRow.holds Try.pinned (OpenSpec.upto strataTellsSpec)

/-- 'lambrequinlaw11.StrataLevels', WHERE WHAT IT READS IS OF BULK AT MOST 1048576: true; the input reads as it did. -/
def strataLevelsUptoRow : OpenClaim := { program := "ytmlhnjonmjmhdaa", sum := "a7017e18c27cf3ee0ab9c7a8ca1c31d18e86267b9f706db13ae799df7abb687a", func := "lambrequin/lambrequinlaw11.StrataLevels", spec := "strataLevels", unfollowed := true, recurses := true, apart := false, narrowed := true }
def StrataLevelsUptoSaid : Prop := strataLevelsUptoRow.holds Try.pinned (OpenSpec.upto strataLevelsSpec)

/-- 'lambrequinlaw11.StrataLeast', WHERE WHAT IT READS IS OF BULK AT MOST 1048576: true; the input reads as it did. -/
def strataLeastUptoRow : OpenClaim := { program := "ytmlhnjonmjmhdaa", sum := "a7017e18c27cf3ee0ab9c7a8ca1c31d18e86267b9f706db13ae799df7abb687a", func := "lambrequin/lambrequinlaw11.StrataLeast", spec := "strataLeast", unfollowed := true, recurses := true, apart := false, narrowed := true }
def StrataLeastUptoSaid : Prop := strataLeastUptoRow.holds Try.pinned (OpenSpec.upto strataLeastSpec)

/-- 'lambrequinlaw11.StrataRings', WHERE WHAT IT READS IS OF BULK AT MOST 1048576: true; the input reads as it did. -/
def strataRingsUptoRow : OpenClaim := { program := "ytmlhnjonmjmhdaa", sum := "a7017e18c27cf3ee0ab9c7a8ca1c31d18e86267b9f706db13ae799df7abb687a", func := "lambrequin/lambrequinlaw11.StrataRings", spec := "strataRings", unfollowed := true, recurses := true, apart := false, narrowed := true }
def StrataRingsUptoSaid : Prop := strataRingsUptoRow.holds Try.pinned (OpenSpec.upto strataRingsSpec)

/-- 'lambrequinlaw11.StrataOrder', WHERE WHAT IT READS IS OF BULK AT MOST 1048576: true; the input reads as it did. -/
def strataOrderUptoRow : OpenClaim := { program := "ytmlhnjonmjmhdaa", sum := "a7017e18c27cf3ee0ab9c7a8ca1c31d18e86267b9f706db13ae799df7abb687a", func := "lambrequin/lambrequinlaw11.StrataOrder", spec := "strataOrder", unfollowed := true, recurses := true, apart := false, narrowed := true }
def StrataOrderUptoSaid : Prop := strataOrderUptoRow.holds Try.pinned (OpenSpec.upto strataOrderSpec)

end Rows
end Go.Proofs.Ytmlhnjonmjmhdaa

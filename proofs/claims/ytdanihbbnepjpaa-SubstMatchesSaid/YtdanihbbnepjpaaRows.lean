/-
  No cell of these rows narrows 'for every input' (looked for: loops, veiled, ifaces, maps, wideKeys, modest, calm, conditions, laid).
  DERIVED. THE GIVEN ROWS OF THIS SEAT. 6 by the template 'for every input the law returns true; each argument reads behind the call as it read before'; 0 by the template 'total and deterministic' (their statements: YtdanihbbnepjpaaTotals.lean).
  GIVEN WITH THE SEED: the statements are not yours to turn. If you find one false, say at which input.
  Laid BY PROGRAM, IN A SANDBOX (cutbox-rows.mjs): the forced cells as the released guide's own fill.sh prints them over the translation 5f3a8064dc333d43… (all of the seat's roots in one cut). By AI agents, Wed Nov 11 2026. No macro, syntax, notation, axiom, sorry.
-/
import Derived.Test.YtdanihbbnepjpaaChecked
import GoSem.Claim
import GoSem.ClaimJoined
import GoSem.ClaimMapViews
import Derived.JoinedTies
import Derived.KernelRfl
namespace Go.Proofs.Ytdanihbbnepjpaa
/- THE CELL 'sum', in the pinned program and in every row, IS THE sha256 OF THE DUMP (.gsa) THAT YtdanihbbnepjpaaProg.lean LOADS. Nothing in Lean hashes anything: it is a label: what it is worth is what the hold of that sum in a sandbox is worth. -/
noncomputable def Try.pinned : Pinned := { name := "ytdanihbbnepjpaa", sum := "5f3a8064dc333d43695fd745947664ff82c6eb5093763068938dd04edeb38d06", checked := Try.checked }
namespace Rows
def none {H : Type} : Left H := { results := [], args := [] }

/-- 'lambrequinlaw12.SubstEnvs': WHATEVER THE INPUT: true; the input reads as it did. -/
def substEnvsSpec : ChangeSpec := { name := "substEnvs", fn := fun _ => fun
  | [d1, d2, d3] => { results := [.lit (.bool true)], args := [d1, d2, d3] }
  | _ => none }
def substEnvsRow : OpenClaim := { program := "ytdanihbbnepjpaa", sum := "5f3a8064dc333d43695fd745947664ff82c6eb5093763068938dd04edeb38d06", func := "lambrequin/lambrequinlaw12.SubstEnvs", spec := "substEnvs", inPlace := ["slices.overlaps[lambrequin/subst.Pair]"], unfollowed := true, recurses := true, apart := false }
def SubstEnvsSaid : Prop := substEnvsRow.holds Try.pinned (OpenSpec.ofChange substEnvsSpec)

/-- ITS FALSE NEIGHBOUR: 'it returns false'. Refute it at one input. -/
def substEnvsWrong : ChangeSpec := { name := "substEnvs", fn := fun _ => fun
  | [d1, d2, d3] => { results := [.lit (.bool false)], args := [d1, d2, d3] }
  | _ => none }
def SubstEnvsWrongFalsely : Prop := substEnvsRow.holds Try.pinned (OpenSpec.ofChange substEnvsWrong)

/-- 'lambrequinlaw12.SubstRises': WHATEVER THE INPUT: true; the input reads as it did. -/
def substRisesSpec : ChangeSpec := { name := "substRises", fn := fun _ => fun
  | [d1, d2, d3] => { results := [.lit (.bool true)], args := [d1, d2, d3] }
  | _ => none }
def substRisesRow : OpenClaim := { program := "ytdanihbbnepjpaa", sum := "5f3a8064dc333d43695fd745947664ff82c6eb5093763068938dd04edeb38d06", func := "lambrequin/lambrequinlaw12.SubstRises", spec := "substRises", inPlace := ["slices.overlaps[lambrequin/subst.Pair]"], unfollowed := true, recurses := true, apart := false }
def SubstRisesSaid : Prop := substRisesRow.holds Try.pinned (OpenSpec.ofChange substRisesSpec)

/-- ITS FALSE NEIGHBOUR: 'it returns false'. Refute it at one input. -/
def substRisesWrong : ChangeSpec := { name := "substRises", fn := fun _ => fun
  | [d1, d2, d3] => { results := [.lit (.bool false)], args := [d1, d2, d3] }
  | _ => none }
def SubstRisesWrongFalsely : Prop := substRisesRow.holds Try.pinned (OpenSpec.ofChange substRisesWrong)

/-- 'lambrequinlaw12.SubstPuts': WHATEVER THE INPUT: true; the input reads as it did. -/
def substPutsSpec : ChangeSpec := { name := "substPuts", fn := fun _ => fun
  | [d1, d2, d3, d4, d5] => { results := [.lit (.bool true)], args := [d1, d2, d3, d4, d5] }
  | _ => none }
def substPutsRow : OpenClaim := { program := "ytdanihbbnepjpaa", sum := "5f3a8064dc333d43695fd745947664ff82c6eb5093763068938dd04edeb38d06", func := "lambrequin/lambrequinlaw12.SubstPuts", spec := "substPuts", inPlace := ["slices.overlaps[lambrequin/subst.Pair]"], unfollowed := true, recurses := true, apart := false }
def SubstPutsSaid : Prop := substPutsRow.holds Try.pinned (OpenSpec.ofChange substPutsSpec)

/-- ITS FALSE NEIGHBOUR: 'it returns false'. Refute it at one input. -/
def substPutsWrong : ChangeSpec := { name := "substPuts", fn := fun _ => fun
  | [d1, d2, d3, d4, d5] => { results := [.lit (.bool false)], args := [d1, d2, d3, d4, d5] }
  | _ => none }
def SubstPutsWrongFalsely : Prop := substPutsRow.holds Try.pinned (OpenSpec.ofChange substPutsWrong)

/-- 'lambrequinlaw12.SubstGrounds': WHATEVER THE INPUT: true; the input reads as it did. -/
def substGroundsSpec : ChangeSpec := { name := "substGrounds", fn := fun _ => fun
  | [d1, d2] => { results := [.lit (.bool true)], args := [d1, d2] }
  | _ => none }
def substGroundsRow : OpenClaim := { program := "ytdanihbbnepjpaa", sum := "5f3a8064dc333d43695fd745947664ff82c6eb5093763068938dd04edeb38d06", func := "lambrequin/lambrequinlaw12.SubstGrounds", spec := "substGrounds", inPlace := ["slices.overlaps[lambrequin/subst.Pair]"], unfollowed := true, recurses := true, apart := false }
def SubstGroundsSaid : Prop := substGroundsRow.holds Try.pinned (OpenSpec.ofChange substGroundsSpec)

/-- ITS FALSE NEIGHBOUR: 'it returns false'. Refute it at one input. -/
def substGroundsWrong : ChangeSpec := { name := "substGrounds", fn := fun _ => fun
  | [d1, d2] => { results := [.lit (.bool false)], args := [d1, d2] }
  | _ => none }
def SubstGroundsWrongFalsely : Prop := substGroundsRow.holds Try.pinned (OpenSpec.ofChange substGroundsWrong)

/-- 'lambrequinlaw12.SubstBack': WHATEVER THE INPUT: true; the input reads as it did. -/
def substBackSpec : ChangeSpec := { name := "substBack", fn := fun _ => fun
  | [d1, d2, d3, d4] => { results := [.lit (.bool true)], args := [d1, d2, d3, d4] }
  | _ => none }
def substBackRow : OpenClaim := { program := "ytdanihbbnepjpaa", sum := "5f3a8064dc333d43695fd745947664ff82c6eb5093763068938dd04edeb38d06", func := "lambrequin/lambrequinlaw12.SubstBack", spec := "substBack", inPlace := ["slices.overlaps[lambrequin/subst.Pair]"], unfollowed := true, recurses := true, apart := false }
def SubstBackSaid : Prop := substBackRow.holds Try.pinned (OpenSpec.ofChange substBackSpec)

/-- ITS FALSE NEIGHBOUR: 'it returns false'. Refute it at one input. -/
def substBackWrong : ChangeSpec := { name := "substBack", fn := fun _ => fun
  | [d1, d2, d3, d4] => { results := [.lit (.bool false)], args := [d1, d2, d3, d4] }
  | _ => none }
def SubstBackWrongFalsely : Prop := substBackRow.holds Try.pinned (OpenSpec.ofChange substBackWrong)

/-- 'lambrequinlaw12.SubstMatches': WHATEVER THE INPUT: true; the input reads as it did. -/
def substMatchesSpec : ChangeSpec := { name := "substMatches", fn := fun _ => fun
  | [d1, d2, d3, d4] => { results := [.lit (.bool true)], args := [d1, d2, d3, d4] }
  | _ => none }
def substMatchesRow : OpenClaim := { program := "ytdanihbbnepjpaa", sum := "5f3a8064dc333d43695fd745947664ff82c6eb5093763068938dd04edeb38d06", func := "lambrequin/lambrequinlaw12.SubstMatches", spec := "substMatches", inPlace := ["slices.overlaps[lambrequin/subst.Pair]"], unfollowed := true, recurses := true, apart := false }
def SubstMatchesSaid : Prop := substMatchesRow.holds Try.pinned (OpenSpec.ofChange substMatchesSpec)

/-- ITS FALSE NEIGHBOUR: 'it returns false'. Refute it at one input. -/
def substMatchesWrong : ChangeSpec := { name := "substMatches", fn := fun _ => fun
  | [d1, d2, d3, d4] => { results := [.lit (.bool false)], args := [d1, d2, d3, d4] }
  | _ => none }
def SubstMatchesWrongFalsely : Prop := substMatchesRow.holds Try.pinned (OpenSpec.ofChange substMatchesWrong)

/- THE SECOND FORM. 'bulk': how many values and letters a reading holds, each counted each time it is reached (what is shared counts as often as it is met; a slice's spare places count too). A statement '..UptoSaid' is the law's where the arguments, and the package variables that the reading takes, are together of bulk at most 1048576: NARROWER than '..Said'. Prove '..Said' where nothing that the law and all that it calls make is longer than what came in: it says more and counts as full. Else prove '..UptoSaid'. A law counts once. -/
mutual
def uptoBulk {H : Type} : DataW H → Nat
  | .lit (.string bytes) => bytes.length + 1
  | .lit _ => 1
  | .nil => 1
  | .ptr d => uptoBulk d + 1
  | .slice elems spare => uptoBulkAll elems + uptoBulkAll spare + 1
  | .agg parts => uptoBulkAll parts + 1
  | .iface _ d => uptoBulk d + 1
  | .map entries => uptoBulkEntries entries + 1
  | .held _ => 1
def uptoBulkAll {H : Type} : List (DataW H) → Nat
  | [] => 0
  | d :: r => uptoBulk d + uptoBulkAll r
def uptoBulkEntries {H : Type} : List (Lit × DataW H) → Nat
  | [] => 0
  | x :: r => uptoBulkEntry x + uptoBulkEntries r
def uptoBulkEntry {H : Type} : Lit × DataW H → Nat
  | (.string bytes, d) => bytes.length + uptoBulk d + 1
  | (_, d) => uptoBulk d + 1
 end
def uptoSmall : (H : Type) → List (DataW H) → Bool := fun _ ds => decide (uptoBulkAll ds ≤ 1048576)
def OpenSpec.upto (s : _root_.Go.ChangeSpec) : _root_.Go.OpenSpec := { _root_.Go.OpenSpec.ofChange s with cond := some uptoSmall }

/-- 'lambrequinlaw12.SubstEnvs', WHERE WHAT IT READS IS OF BULK AT MOST 1048576: true; the input reads as it did. -/
def substEnvsUptoRow : OpenClaim := { program := "ytdanihbbnepjpaa", sum := "5f3a8064dc333d43695fd745947664ff82c6eb5093763068938dd04edeb38d06", func := "lambrequin/lambrequinlaw12.SubstEnvs", spec := "substEnvs", inPlace := ["slices.overlaps[lambrequin/subst.Pair]"], unfollowed := true, recurses := true, apart := false, narrowed := true }
def SubstEnvsUptoSaid : Prop := substEnvsUptoRow.holds Try.pinned (OpenSpec.upto substEnvsSpec)

/-- 'lambrequinlaw12.SubstRises', WHERE WHAT IT READS IS OF BULK AT MOST 1048576: true; the input reads as it did. -/
def substRisesUptoRow : OpenClaim := { program := "ytdanihbbnepjpaa", sum := "5f3a8064dc333d43695fd745947664ff82c6eb5093763068938dd04edeb38d06", func := "lambrequin/lambrequinlaw12.SubstRises", spec := "substRises", inPlace := ["slices.overlaps[lambrequin/subst.Pair]"], unfollowed := true, recurses := true, apart := false, narrowed := true }
def SubstRisesUptoSaid : Prop := substRisesUptoRow.holds Try.pinned (OpenSpec.upto substRisesSpec)

/-- 'lambrequinlaw12.SubstPuts', WHERE WHAT IT READS IS OF BULK AT MOST 1048576: true; the input reads as it did. -/
def substPutsUptoRow : OpenClaim := { program := "ytdanihbbnepjpaa", sum := "5f3a8064dc333d43695fd745947664ff82c6eb5093763068938dd04edeb38d06", func := "lambrequin/lambrequinlaw12.SubstPuts", spec := "substPuts", inPlace := ["slices.overlaps[lambrequin/subst.Pair]"], unfollowed := true, recurses := true, apart := false, narrowed := true }
def SubstPutsUptoSaid : Prop := substPutsUptoRow.holds Try.pinned (OpenSpec.upto substPutsSpec)

/-- 'lambrequinlaw12.SubstGrounds', WHERE WHAT IT READS IS OF BULK AT MOST 1048576: true; the input reads as it did. -/
def substGroundsUptoRow : OpenClaim := { program := "ytdanihbbnepjpaa", sum := "5f3a8064dc333d43695fd745947664ff82c6eb5093763068938dd04edeb38d06", func := "lambrequin/lambrequinlaw12.SubstGrounds", spec := "substGrounds", inPlace := ["slices.overlaps[lambrequin/subst.Pair]"], unfollowed := true, recurses := true, apart := false, narrowed := true }
def SubstGroundsUptoSaid : Prop := substGroundsUptoRow.holds Try.pinned (OpenSpec.upto substGroundsSpec)

/-- 'lambrequinlaw12.SubstBack', WHERE WHAT IT READS IS OF BULK AT MOST 1048576: true; the input reads as it did. -/
def substBackUptoRow : OpenClaim := { program := "ytdanihbbnepjpaa", sum := "5f3a8064dc333d43695fd745947664ff82c6eb5093763068938dd04edeb38d06", func := "lambrequin/lambrequinlaw12.SubstBack", spec := "substBack", inPlace := ["slices.overlaps[lambrequin/subst.Pair]"], unfollowed := true, recurses := true, apart := false, narrowed := true }
def SubstBackUptoSaid : Prop := substBackUptoRow.holds Try.pinned (OpenSpec.upto substBackSpec)

/-- 'lambrequinlaw12.SubstMatches', WHERE WHAT IT READS IS OF BULK AT MOST 1048576: true; the input reads as it did. -/
def substMatchesUptoRow : OpenClaim := { program := "ytdanihbbnepjpaa", sum := "5f3a8064dc333d43695fd745947664ff82c6eb5093763068938dd04edeb38d06", func := "lambrequin/lambrequinlaw12.SubstMatches", spec := "substMatches", inPlace := ["slices.overlaps[lambrequin/subst.Pair]"], unfollowed := true, recurses := true, apart := false, narrowed := true }
def SubstMatchesUptoSaid : Prop := substMatchesUptoRow.holds Try.pinned (OpenSpec.upto substMatchesSpec)

end Rows
end Go.Proofs.Ytdanihbbnepjpaa

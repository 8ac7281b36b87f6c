/-
  No cell of these rows narrows 'for every input' (looked for: loops, veiled, ifaces, maps, wideKeys, modest, calm, conditions, laid).
  DERIVED. THE GIVEN ROWS OF THIS SEAT. 14 by the template 'for every input the law returns true; each argument reads behind the call as it read before'; 0 by the template 'total and deterministic' (their statements: YtnepgcbgkhikkaaTotals.lean).
  GIVEN WITH THE SEED: the statements are not yours to turn. If you find one false, say at which input.
  Laid BY PROGRAM, IN A SANDBOX (cutbox-rows.mjs): the forced cells as the released guide's own fill.sh prints them over the translation b0b62d7351928724… (all of the seat's roots in one cut). By AI agents, Wed Nov 11 2026. No macro, syntax, notation, axiom, sorry.
-/
import Derived.Test.YtnepgcbgkhikkaaChecked
import GoSem.Claim
import GoSem.ClaimJoined
import GoSem.ClaimMapViews
import Derived.JoinedTies
import Derived.KernelRfl
namespace Go.Proofs.Ytnepgcbgkhikkaa
/- THE CELL 'sum', in the pinned program and in every row, IS THE sha256 OF THE DUMP (.gsa) THAT YtnepgcbgkhikkaaProg.lean LOADS. Nothing in Lean hashes anything: it is a label: what it is worth is what the hold of that sum in a sandbox is worth. -/
noncomputable def Try.pinned : Pinned := { name := "ytnepgcbgkhikkaa", sum := "b0b62d7351928724cb4ea6f7b44ec7be63b46bb74bd847590022aaa09907e548", checked := Try.checked }
namespace Rows
def none {H : Type} : Left H := { results := [], args := [] }

/-- 'lambrequinlaw20.CfgLive': WHATEVER THE INPUT: true; the input reads as it did. -/
def cfgLiveSpec : ChangeSpec := { name := "cfgLive", fn := fun _ => fun
  | [d1, d2, d3] => { results := [.lit (.bool true)], args := [d1, d2, d3] }
  | _ => none }
def cfgLiveRow : OpenClaim := { program := "ytnepgcbgkhikkaa", sum := "b0b62d7351928724cb4ea6f7b44ec7be63b46bb74bd847590022aaa09907e548", func := "lambrequin/lambrequinlaw20.CfgLive", spec := "cfgLive", unfollowed := true, recurses := true, apart := false }
def CfgLiveSaid : Prop := cfgLiveRow.holds Try.pinned (OpenSpec.ofChange cfgLiveSpec)

/-- ITS FALSE NEIGHBOUR: 'it returns false'. Refute it at one input. -/
def cfgLiveWrong : ChangeSpec := { name := "cfgLive", fn := fun _ => fun
  | [d1, d2, d3] => { results := [.lit (.bool false)], args := [d1, d2, d3] }
  | _ => none }
def CfgLiveWrongFalsely : Prop := cfgLiveRow.holds Try.pinned (OpenSpec.ofChange cfgLiveWrong)

/-- 'lambrequinlaw20.CfgSteps': WHATEVER THE INPUT: true; the input reads as it did. -/
def cfgStepsSpec : ChangeSpec := { name := "cfgSteps", fn := fun _ => fun
  | [d1, d2, d3] => { results := [.lit (.bool true)], args := [d1, d2, d3] }
  | _ => none }
def cfgStepsRow : OpenClaim := { program := "ytnepgcbgkhikkaa", sum := "b0b62d7351928724cb4ea6f7b44ec7be63b46bb74bd847590022aaa09907e548", func := "lambrequin/lambrequinlaw20.CfgSteps", spec := "cfgSteps", unfollowed := true, recurses := true, apart := false }
def CfgStepsSaid : Prop := cfgStepsRow.holds Try.pinned (OpenSpec.ofChange cfgStepsSpec)

/-- ITS FALSE NEIGHBOUR: 'it returns false'. Refute it at one input. -/
def cfgStepsWrong : ChangeSpec := { name := "cfgSteps", fn := fun _ => fun
  | [d1, d2, d3] => { results := [.lit (.bool false)], args := [d1, d2, d3] }
  | _ => none }
def CfgStepsWrongFalsely : Prop := cfgStepsRow.holds Try.pinned (OpenSpec.ofChange cfgStepsWrong)

/-- 'lambrequinlaw20.CfgBack': WHATEVER THE INPUT: true; the input reads as it did. -/
def cfgBackSpec : ChangeSpec := { name := "cfgBack", fn := fun _ => fun
  | [d1, d2, d3] => { results := [.lit (.bool true)], args := [d1, d2, d3] }
  | _ => none }
def cfgBackRow : OpenClaim := { program := "ytnepgcbgkhikkaa", sum := "b0b62d7351928724cb4ea6f7b44ec7be63b46bb74bd847590022aaa09907e548", func := "lambrequin/lambrequinlaw20.CfgBack", spec := "cfgBack", unfollowed := true, recurses := true, apart := false }
def CfgBackSaid : Prop := cfgBackRow.holds Try.pinned (OpenSpec.ofChange cfgBackSpec)

/-- ITS FALSE NEIGHBOUR: 'it returns false'. Refute it at one input. -/
def cfgBackWrong : ChangeSpec := { name := "cfgBack", fn := fun _ => fun
  | [d1, d2, d3] => { results := [.lit (.bool false)], args := [d1, d2, d3] }
  | _ => none }
def CfgBackWrongFalsely : Prop := cfgBackRow.holds Try.pinned (OpenSpec.ofChange cfgBackWrong)

/-- 'lambrequinlaw20.CfgLeads': WHATEVER THE INPUT: true; the input reads as it did. -/
def cfgLeadsSpec : ChangeSpec := { name := "cfgLeads", fn := fun _ => fun
  | [d1, d2, d3] => { results := [.lit (.bool true)], args := [d1, d2, d3] }
  | _ => none }
def cfgLeadsRow : OpenClaim := { program := "ytnepgcbgkhikkaa", sum := "b0b62d7351928724cb4ea6f7b44ec7be63b46bb74bd847590022aaa09907e548", func := "lambrequin/lambrequinlaw20.CfgLeads", spec := "cfgLeads", unfollowed := true, recurses := true, apart := false }
def CfgLeadsSaid : Prop := cfgLeadsRow.holds Try.pinned (OpenSpec.ofChange cfgLeadsSpec)

/-- ITS FALSE NEIGHBOUR: 'it returns false'. Refute it at one input. -/
def cfgLeadsWrong : ChangeSpec := { name := "cfgLeads", fn := fun _ => fun
  | [d1, d2, d3] => { results := [.lit (.bool false)], args := [d1, d2, d3] }
  | _ => none }
def CfgLeadsWrongFalsely : Prop := cfgLeadsRow.holds Try.pinned (OpenSpec.ofChange cfgLeadsWrong)

/-- 'lambrequinlaw22.InterpRuns': WHATEVER THE INPUT: true; the input reads as it did. -/
def interpRunsSpec : ChangeSpec := { name := "interpRuns", fn := fun _ => fun
  | [d] => { results := [.lit (.bool true)], args := [d] }
  | _ => none }
def interpRunsRow : OpenClaim := { program := "ytnepgcbgkhikkaa", sum := "b0b62d7351928724cb4ea6f7b44ec7be63b46bb74bd847590022aaa09907e548", func := "lambrequin/lambrequinlaw22.InterpRuns", spec := "interpRuns", unfollowed := true, recurses := true, apart := false }
def InterpRunsSaid : Prop := interpRunsRow.holds Try.pinned (OpenSpec.ofChange interpRunsSpec)

/-- ITS FALSE NEIGHBOUR: 'it returns false'. Refute it at one input. -/
def interpRunsWrong : ChangeSpec := { name := "interpRuns", fn := fun _ => fun
  | [d] => { results := [.lit (.bool false)], args := [d] }
  | _ => none }
def InterpRunsWrongFalsely : Prop := interpRunsRow.holds Try.pinned (OpenSpec.ofChange interpRunsWrong)

/-- 'lambrequinlaw22.InterpMore': WHATEVER THE INPUT: true; the input reads as it did. -/
def interpMoreSpec : ChangeSpec := { name := "interpMore", fn := fun _ => fun
  | [d1, d2] => { results := [.lit (.bool true)], args := [d1, d2] }
  | _ => none }
def interpMoreRow : OpenClaim := { program := "ytnepgcbgkhikkaa", sum := "b0b62d7351928724cb4ea6f7b44ec7be63b46bb74bd847590022aaa09907e548", func := "lambrequin/lambrequinlaw22.InterpMore", spec := "interpMore", unfollowed := true, recurses := true, apart := false }
def InterpMoreSaid : Prop := interpMoreRow.holds Try.pinned (OpenSpec.ofChange interpMoreSpec)

/-- ITS FALSE NEIGHBOUR: 'it returns false'. Refute it at one input. -/
def interpMoreWrong : ChangeSpec := { name := "interpMore", fn := fun _ => fun
  | [d1, d2] => { results := [.lit (.bool false)], args := [d1, d2] }
  | _ => none }
def InterpMoreWrongFalsely : Prop := interpMoreRow.holds Try.pinned (OpenSpec.ofChange interpMoreWrong)

/-- 'lambrequinlaw22.InterpEnds': WHATEVER THE INPUT: true; the input reads as it did. -/
def interpEndsSpec : ChangeSpec := { name := "interpEnds", fn := fun _ => fun
  | [d] => { results := [.lit (.bool true)], args := [d] }
  | _ => none }
def interpEndsRow : OpenClaim := { program := "ytnepgcbgkhikkaa", sum := "b0b62d7351928724cb4ea6f7b44ec7be63b46bb74bd847590022aaa09907e548", func := "lambrequin/lambrequinlaw22.InterpEnds", spec := "interpEnds", unfollowed := true, recurses := true, apart := false }
def InterpEndsSaid : Prop := interpEndsRow.holds Try.pinned (OpenSpec.ofChange interpEndsSpec)

/-- ITS FALSE NEIGHBOUR: 'it returns false'. Refute it at one input. -/
def interpEndsWrong : ChangeSpec := { name := "interpEnds", fn := fun _ => fun
  | [d] => { results := [.lit (.bool false)], args := [d] }
  | _ => none }
def InterpEndsWrongFalsely : Prop := interpEndsRow.holds Try.pinned (OpenSpec.ofChange interpEndsWrong)

/-- 'lambrequinlaw22.InterpSteps': WHATEVER THE INPUT: true; the input reads as it did. -/
def interpStepsSpec : ChangeSpec := { name := "interpSteps", fn := fun _ => fun
  | [d] => { results := [.lit (.bool true)], args := [d] }
  | _ => none }
def interpStepsRow : OpenClaim := { program := "ytnepgcbgkhikkaa", sum := "b0b62d7351928724cb4ea6f7b44ec7be63b46bb74bd847590022aaa09907e548", func := "lambrequin/lambrequinlaw22.InterpSteps", spec := "interpSteps", unfollowed := true, recurses := true, apart := false }
def InterpStepsSaid : Prop := interpStepsRow.holds Try.pinned (OpenSpec.ofChange interpStepsSpec)

/-- ITS FALSE NEIGHBOUR: 'it returns false'. Refute it at one input. -/
def interpStepsWrong : ChangeSpec := { name := "interpSteps", fn := fun _ => fun
  | [d] => { results := [.lit (.bool false)], args := [d] }
  | _ => none }
def InterpStepsWrongFalsely : Prop := interpStepsRow.holds Try.pinned (OpenSpec.ofChange interpStepsWrong)

/-- 'lambrequinlaw20.CfgFlows': WHATEVER THE INPUT: true; the input reads as it did. -/
def cfgFlowsSpec : ChangeSpec := { name := "cfgFlows", fn := fun _ => fun
  | [d1, d2, d3, d4] => { results := [.lit (.bool true)], args := [d1, d2, d3, d4] }
  | _ => none }
def cfgFlowsRow : OpenClaim := { program := "ytnepgcbgkhikkaa", sum := "b0b62d7351928724cb4ea6f7b44ec7be63b46bb74bd847590022aaa09907e548", func := "lambrequin/lambrequinlaw20.CfgFlows", spec := "cfgFlows", unfollowed := true, recurses := true, apart := false }
def CfgFlowsSaid : Prop := cfgFlowsRow.holds Try.pinned (OpenSpec.ofChange cfgFlowsSpec)

/-- ITS FALSE NEIGHBOUR: 'it returns false'. Refute it at one input. -/
def cfgFlowsWrong : ChangeSpec := { name := "cfgFlows", fn := fun _ => fun
  | [d1, d2, d3, d4] => { results := [.lit (.bool false)], args := [d1, d2, d3, d4] }
  | _ => none }
def CfgFlowsWrongFalsely : Prop := cfgFlowsRow.holds Try.pinned (OpenSpec.ofChange cfgFlowsWrong)

/-- 'lambrequinlaw20.CfgNames': WHATEVER THE INPUT: true; the input reads as it did. -/
def cfgNamesSpec : ChangeSpec := { name := "cfgNames", fn := fun _ => fun
  | [d1, d2, d3, d4] => { results := [.lit (.bool true)], args := [d1, d2, d3, d4] }
  | _ => none }
def cfgNamesRow : OpenClaim := { program := "ytnepgcbgkhikkaa", sum := "b0b62d7351928724cb4ea6f7b44ec7be63b46bb74bd847590022aaa09907e548", func := "lambrequin/lambrequinlaw20.CfgNames", spec := "cfgNames", unfollowed := true, recurses := true, apart := false }
def CfgNamesSaid : Prop := cfgNamesRow.holds Try.pinned (OpenSpec.ofChange cfgNamesSpec)

/-- ITS FALSE NEIGHBOUR: 'it returns false'. Refute it at one input. -/
def cfgNamesWrong : ChangeSpec := { name := "cfgNames", fn := fun _ => fun
  | [d1, d2, d3, d4] => { results := [.lit (.bool false)], args := [d1, d2, d3, d4] }
  | _ => none }
def CfgNamesWrongFalsely : Prop := cfgNamesRow.holds Try.pinned (OpenSpec.ofChange cfgNamesWrong)

/-- 'lambrequinlaw20.CfgTaint': WHATEVER THE INPUT: true; the input reads as it did. -/
def cfgTaintSpec : ChangeSpec := { name := "cfgTaint", fn := fun _ => fun
  | [d1, d2, d3] => { results := [.lit (.bool true)], args := [d1, d2, d3] }
  | _ => none }
def cfgTaintRow : OpenClaim := { program := "ytnepgcbgkhikkaa", sum := "b0b62d7351928724cb4ea6f7b44ec7be63b46bb74bd847590022aaa09907e548", func := "lambrequin/lambrequinlaw20.CfgTaint", spec := "cfgTaint", unfollowed := true, recurses := true, apart := false }
def CfgTaintSaid : Prop := cfgTaintRow.holds Try.pinned (OpenSpec.ofChange cfgTaintSpec)

/-- ITS FALSE NEIGHBOUR: 'it returns false'. Refute it at one input. -/
def cfgTaintWrong : ChangeSpec := { name := "cfgTaint", fn := fun _ => fun
  | [d1, d2, d3] => { results := [.lit (.bool false)], args := [d1, d2, d3] }
  | _ => none }
def CfgTaintWrongFalsely : Prop := cfgTaintRow.holds Try.pinned (OpenSpec.ofChange cfgTaintWrong)

/-- 'lambrequinlaw22.InterpReaches': WHATEVER THE INPUT: true; the input reads as it did. -/
def interpReachesSpec : ChangeSpec := { name := "interpReaches", fn := fun _ => fun
  | [d] => { results := [.lit (.bool true)], args := [d] }
  | _ => none }
def interpReachesRow : OpenClaim := { program := "ytnepgcbgkhikkaa", sum := "b0b62d7351928724cb4ea6f7b44ec7be63b46bb74bd847590022aaa09907e548", func := "lambrequin/lambrequinlaw22.InterpReaches", spec := "interpReaches", unfollowed := true, recurses := true, apart := false }
def InterpReachesSaid : Prop := interpReachesRow.holds Try.pinned (OpenSpec.ofChange interpReachesSpec)

/-- ITS FALSE NEIGHBOUR: 'it returns false'. Refute it at one input. -/
def interpReachesWrong : ChangeSpec := { name := "interpReaches", fn := fun _ => fun
  | [d] => { results := [.lit (.bool false)], args := [d] }
  | _ => none }
def InterpReachesWrongFalsely : Prop := interpReachesRow.holds Try.pinned (OpenSpec.ofChange interpReachesWrong)

/-- 'lambrequinlaw22.InterpLives': WHATEVER THE INPUT: true; the input reads as it did. -/
def interpLivesSpec : ChangeSpec := { name := "interpLives", fn := fun _ => fun
  | [d] => { results := [.lit (.bool true)], args := [d] }
  | _ => none }
def interpLivesRow : OpenClaim := { program := "ytnepgcbgkhikkaa", sum := "b0b62d7351928724cb4ea6f7b44ec7be63b46bb74bd847590022aaa09907e548", func := "lambrequin/lambrequinlaw22.InterpLives", spec := "interpLives", unfollowed := true, recurses := true, apart := false }
def InterpLivesSaid : Prop := interpLivesRow.holds Try.pinned (OpenSpec.ofChange interpLivesSpec)

/-- ITS FALSE NEIGHBOUR: 'it returns false'. Refute it at one input. -/
def interpLivesWrong : ChangeSpec := { name := "interpLives", fn := fun _ => fun
  | [d] => { results := [.lit (.bool false)], args := [d] }
  | _ => none }
def InterpLivesWrongFalsely : Prop := interpLivesRow.holds Try.pinned (OpenSpec.ofChange interpLivesWrong)

/-- 'lambrequinlaw22.InterpTaints': WHATEVER THE INPUT: true; the input reads as it did. -/
def interpTaintsSpec : ChangeSpec := { name := "interpTaints", fn := fun _ => fun
  | [d] => { results := [.lit (.bool true)], args := [d] }
  | _ => none }
def interpTaintsRow : OpenClaim := { program := "ytnepgcbgkhikkaa", sum := "b0b62d7351928724cb4ea6f7b44ec7be63b46bb74bd847590022aaa09907e548", func := "lambrequin/lambrequinlaw22.InterpTaints", spec := "interpTaints", unfollowed := true, recurses := true, apart := false }
def InterpTaintsSaid : Prop := interpTaintsRow.holds Try.pinned (OpenSpec.ofChange interpTaintsSpec)

/-- ITS FALSE NEIGHBOUR: 'it returns false'. Refute it at one input. -/
def interpTaintsWrong : ChangeSpec := { name := "interpTaints", fn := fun _ => fun
  | [d] => { results := [.lit (.bool false)], args := [d] }
  | _ => none }
def InterpTaintsWrongFalsely : Prop := interpTaintsRow.holds Try.pinned (OpenSpec.ofChange interpTaintsWrong)

/- THE SECOND FORM. 'bulk': how many values and letters a reading holds, each counted each time it is reached (what is shared counts as often as it is met; a slice's spare places count too). A statement '..UptoSaid' is the law's where the arguments, and the package variables that the reading takes, are together of bulk at most 1048576: NARROWER than '..Said'. Prove '..Said' where nothing that the law and all that it calls make is longer than what came in: it says more and counts as full. Else prove '..UptoSaid'. A law counts once. -/
mutual
def uptoBulk {H : Type} : DataW H → Nat
  | .lit (.string bytes) => bytes.length + 1
  | .lit _ => 1
  | .nil => 1
  | .ptr d => uptoBulk d + 1
  | .slice elems spare => uptoBulkAll elems + uptoBulkAll spare + 1
  | .agg parts => uptoBulkAll parts + 1
  | .iface _ d => uptoBulk d + 1
  | .map entries => uptoBulkEntries entries + 1
  | .held _ => 1
def uptoBulkAll {H : Type} : List (DataW H) → Nat
  | [] => 0
  | d :: r => uptoBulk d + uptoBulkAll r
def uptoBulkEntries {H : Type} : List (Lit × DataW H) → Nat
  | [] => 0
  | x :: r => uptoBulkEntry x + uptoBulkEntries r
def uptoBulkEntry {H : Type} : Lit × DataW H → Nat
  | (.string bytes, d) => bytes.length + uptoBulk d + 1
  | (_, d) => uptoBulk d + 1
 end
def uptoSmall : (H : Type) → List (DataW H) → Bool := fun _ ds => decide (uptoBulkAll ds ≤ 1048576)
def OpenSpec.upto (s : _root_.Go.ChangeSpec) : _root_.Go.OpenSpec := { _root_.Go.OpenSpec.ofChange s with cond := some uptoSmall }

/-- 'lambrequinlaw20.CfgLive', WHERE WHAT IT READS IS OF BULK AT MOST 1048576: true; the input reads as it did. -/
def cfgLiveUptoRow : OpenClaim := { program := "ytnepgcbgkhikkaa", sum := "b0b62d7351928724cb4ea6f7b44ec7be63b46bb74bd847590022aaa09907e548", func := "lambrequin/lambrequinlaw20.CfgLive", spec := "cfgLive", unfollowed := true, recurses := true, apart := false, narrowed := true }
def CfgLiveUptoSaid : Prop := cfgLiveUptoRow.holds Try.pinned (OpenSpec.upto cfgLiveSpec)

/-- 'lambrequinlaw20.CfgSteps', WHERE WHAT IT READS IS OF BULK AT MOST 1048576: true; the input reads as it did. -/
def cfgStepsUptoRow : OpenClaim := { program := "ytnepgcbgkhikkaa", sum := "b0b62d7351928724cb4ea6f7b44ec7be63b46bb74bd847590022aaa09907e548", func := "lambrequin/lambrequinlaw20.CfgSteps", spec := "cfgSteps", unfollowed := true, recurses := true, apart := false, narrowed := true }
def CfgStepsUptoSaid : Prop := cfgStepsUptoRow.holds Try.pinned (OpenSpec.upto cfgStepsSpec)

/-- 'lambrequinlaw20.CfgBack', WHERE WHAT IT READS IS OF BULK AT MOST 1048576: true; the input reads as it did. -/
def cfgBackUptoRow : OpenClaim := { program := "ytnepgcbgkhikkaa", sum := "b0b62d7351928724cb4ea6f7b44ec7be63b46bb74bd847590022aaa09907e548", func := "lambrequin/lambrequinlaw20.CfgBack", spec := "cfgBack", unfollowed := true, recurses := true, apart := false, narrowed := true }
def CfgBackUptoSaid : Prop := cfgBackUptoRow.holds Try.pinned (OpenSpec.upto cfgBackSpec)

/-- 'lambrequinlaw20.CfgLeads', WHERE WHAT IT READS IS OF BULK AT MOST 1048576: true; the input reads as it did. -/
def cfgLeadsUptoRow : OpenClaim := { program := "ytnepgcbgkhikkaa", sum := "b0b62d7351928724cb4ea6f7b44ec7be63b46bb74bd847590022aaa09907e548", func := "lambrequin/lambrequinlaw20.CfgLeads", spec := "cfgLeads", unfollowed := true, recurses := true, apart := false, narrowed := true }
def CfgLeadsUptoSaid : Prop := cfgLeadsUptoRow.holds Try.pinned (OpenSpec.upto cfgLeadsSpec)

/-- 'lambrequinlaw22.InterpRuns', WHERE WHAT IT READS IS OF BULK AT MOST 1048576: true; the input reads as it did. -/
def interpRunsUptoRow : OpenClaim := { program := "ytnepgcbgkhikkaa", sum := "b0b62d7351928724cb4ea6f7b44ec7be63b46bb74bd847590022aaa09907e548", func := "lambrequin/lambrequinlaw22.InterpRuns", spec := "interpRuns", unfollowed := true, recurses := true, apart := false, narrowed := true }
def InterpRunsUptoSaid : Prop := interpRunsUptoRow.holds Try.pinned (OpenSpec.upto interpRunsSpec)

/-- 'lambrequinlaw22.InterpMore', WHERE WHAT IT READS IS OF BULK AT MOST 1048576: true; the input reads as it did. -/
def interpMoreUptoRow : OpenClaim := { program := "ytnepgcbgkhikkaa", sum := "b0b62d7351928724cb4ea6f7b44ec7be63b46bb74bd847590022aaa09907e548", func := "lambrequin/lambrequinlaw22.InterpMore", spec := "interpMore", unfollowed := true, recurses := true, apart := false, narrowed := true }
def InterpMoreUptoSaid : Prop := interpMoreUptoRow.holds Try.pinned (OpenSpec.upto interpMoreSpec)

/-- 'lambrequinlaw22.InterpEnds', WHERE WHAT IT READS IS OF BULK AT MOST 1048576: true; the input reads as it did. -/
def interpEndsUptoRow : OpenClaim := { program := "ytnepgcbgkhikkaa", sum := "b0b62d7351928724cb4ea6f7b44ec7be63b46bb74bd847590022aaa09907e548", func := "lambrequin/lambrequinlaw22.InterpEnds", spec := "interpEnds", unfollowed := true, recurses := true, apart := false, narrowed := true }
def InterpEndsUptoSaid : Prop := interpEndsUptoRow.holds Try.pinned (OpenSpec.upto interpEndsSpec)

/-- 'lambrequinlaw22.InterpSteps', WHERE WHAT IT READS IS OF BULK AT MOST 1048576: true; the input reads as it did. -/
def interpStepsUptoRow : OpenClaim := { program := "ytnepgcbgkhikkaa", sum := "b0b62d7351928724cb4ea6f7b44ec7be63b46bb74bd847590022aaa09907e548", func := "lambrequin/lambrequinlaw22.InterpSteps", spec := "interpSteps", unfollowed := true, recurses := true, apart := false, narrowed := true }
def InterpStepsUptoSaid : Prop := interpStepsUptoRow.holds Try.pinned (OpenSpec.upto interpStepsSpec)

/-- 'lambrequinlaw20.CfgFlows', WHERE WHAT IT READS IS OF BULK AT MOST 1048576: true; the input reads as it did. -/
def cfgFlowsUptoRow : OpenClaim := { program := "ytnepgcbgkhikkaa", sum := "b0b62d7351928724cb4ea6f7b44ec7be63b46bb74bd847590022aaa09907e548", func := "lambrequin/lambrequinlaw20.CfgFlows", spec := "cfgFlows", unfollowed := true, recurses := true, apart := false, narrowed := true }
def CfgFlowsUptoSaid : Prop := cfgFlowsUptoRow.holds Try.pinned (OpenSpec.upto cfgFlowsSpec)

/-- 'lambrequinlaw20.CfgNames', WHERE WHAT IT READS IS OF BULK AT MOST 1048576: true; the input reads as it did. -/
def cfgNamesUptoRow : OpenClaim := { program := "ytnepgcbgkhikkaa", sum := "b0b62d7351928724cb4ea6f7b44ec7be63b46bb74bd847590022aaa09907e548", func := "lambrequin/lambrequinlaw20.CfgNames", spec := "cfgNames", unfollowed := true, recurses := true, apart := false, narrowed := true }
def CfgNamesUptoSaid : Prop := cfgNamesUptoRow.holds Try.pinned (OpenSpec.upto cfgNamesSpec)

/-- 'lambrequinlaw20.CfgTaint', WHERE WHAT IT READS IS OF BULK AT MOST 1048576: true; the input reads as it did. -/
def cfgTaintUptoRow : OpenClaim := { program := "ytnepgcbgkhikkaa", sum := "b0b62d7351928724cb4ea6f7b44ec7be63b46bb74bd847590022aaa09907e548", func := "lambrequin/lambrequinlaw20.CfgTaint", spec := "cfgTaint", unfollowed := true, recurses := true, apart := false, narrowed := true }
def CfgTaintUptoSaid : Prop := cfgTaintUptoRow.holds Try.pinned (OpenSpec.upto cfgTaintSpec)

/-- 'lambrequinlaw22.InterpReaches', WHERE WHAT IT READS IS OF BULK AT MOST 1048576: true; the input reads as it did. -/
def interpReachesUptoRow : OpenClaim := { program := "ytnepgcbgkhikkaa", sum := "b0b62d7351928724cb4ea6f7b44ec7be63b46bb74bd847590022aaa09907e548", func := "lambrequin/lambrequinlaw22.InterpReaches", spec := "interpReaches", unfollowed := true, recurses := true, apart := false, narrowed := true }
def InterpReachesUptoSaid : Prop := interpReachesUptoRow.holds Try.pinned (OpenSpec.upto interpReachesSpec)

/-- 'lambrequinlaw22.InterpLives', WHERE WHAT IT READS IS OF BULK AT MOST 1048576: true; the input reads as it did. -/
def interpLivesUptoRow : OpenClaim := { program := "ytnepgcbgkhikkaa", sum := "b0b62d7351928724cb4ea6f7b44ec7be63b46bb74bd847590022aaa09907e548", func := "lambrequin/lambrequinlaw22.InterpLives", spec := "interpLives", unfollowed := true, recurses := true, apart := false, narrowed := true }
def InterpLivesUptoSaid : Prop := interpLivesUptoRow.holds Try.pinned (OpenSpec.upto interpLivesSpec)

/-- 'lambrequinlaw22.InterpTaints', WHERE WHAT IT READS IS OF BULK AT MOST 1048576: true; the input reads as it did. -/
def interpTaintsUptoRow : OpenClaim := { program := "ytnepgcbgkhikkaa", sum := "b0b62d7351928724cb4ea6f7b44ec7be63b46bb74bd847590022aaa09907e548", func := "lambrequin/lambrequinlaw22.InterpTaints", spec := "interpTaints", unfollowed := true, recurses := true, apart := false, narrowed := true }
def InterpTaintsUptoSaid : Prop := interpTaintsUptoRow.holds Try.pinned (OpenSpec.upto interpTaintsSpec)

end Rows
end Go.Proofs.Ytnepgcbgkhikkaa

/-
  No cell of these rows narrows 'for every input' (looked for: loops, veiled, ifaces, maps, wideKeys, modest, calm, conditions, laid).
  DERIVED. THE GIVEN ROWS OF THIS SEAT. 12 by the template 'for every input the law returns true; each argument reads behind the call as it read before'; 0 by the template 'total and deterministic' (their statements: YthpejcnldecmoaaTotals.lean).
  GIVEN WITH THE SEED: the statements are not yours to turn. If you find one false, say at which input.
  Laid BY PROGRAM, IN A SANDBOX (cutbox-rows.mjs): the forced cells as the released guide's own fill.sh prints them over the translation f2f49bfbcb6e7865… (all of the seat's roots in one cut). By AI agents, Wed Nov 11 2026. No macro, syntax, notation, axiom, sorry.
-/
import Derived.Test.YthpejcnldecmoaaChecked
import GoSem.Claim
import GoSem.ClaimJoined
import GoSem.ClaimMapViews
import Derived.JoinedTies
import Derived.KernelRfl
namespace Go.Proofs.Ythpejcnldecmoaa
/- THE CELL 'sum', in the pinned program and in every row, IS THE sha256 OF THE DUMP (.gsa) THAT YthpejcnldecmoaaProg.lean LOADS. Nothing in Lean hashes anything: it is a label: what it is worth is what the hold of that sum in a sandbox is worth. -/
noncomputable def Try.pinned : Pinned := { name := "ythpejcnldecmoaa", sum := "f2f49bfbcb6e7865c42de8a01d9db0cf1a126028817958d56e8b1a81befaaea2", checked := Try.checked }
namespace Rows
def none {H : Type} : Left H := { results := [], args := [] }

/-- 'lambrequinlaw13.PlanTells': WHATEVER THE INPUT: true; the input reads as it did. -/
def planTellsSpec : ChangeSpec := { name := "planTells", fn := fun _ => fun
  | [d1, d2, d3, d4] => { results := [.lit (.bool true)], args := [d1, d2, d3, d4] }
  | _ => none }
def planTellsRow : OpenClaim := { program := "ythpejcnldecmoaa", sum := "f2f49bfbcb6e7865c42de8a01d9db0cf1a126028817958d56e8b1a81befaaea2", func := "lambrequin/lambrequinlaw13.PlanTells", spec := "planTells", unfollowed := true, recurses := true, apart := false }
def PlanTellsSaid : Prop := planTellsRow.holds Try.pinned (OpenSpec.ofChange planTellsSpec)

/-- ITS FALSE NEIGHBOUR: 'it returns false'. Refute it at one input. -/
def planTellsWrong : ChangeSpec := { name := "planTells", fn := fun _ => fun
  | [d1, d2, d3, d4] => { results := [.lit (.bool false)], args := [d1, d2, d3, d4] }
  | _ => none }
def PlanTellsWrongFalsely : Prop := planTellsRow.holds Try.pinned (OpenSpec.ofChange planTellsWrong)

/-- 'lambrequinlaw13.PlanAll': WHATEVER THE INPUT: true; the input reads as it did. -/
def planAllSpec : ChangeSpec := { name := "planAll", fn := fun _ => fun
  | [d1, d2] => { results := [.lit (.bool true)], args := [d1, d2] }
  | _ => none }
def planAllRow : OpenClaim := { program := "ythpejcnldecmoaa", sum := "f2f49bfbcb6e7865c42de8a01d9db0cf1a126028817958d56e8b1a81befaaea2", func := "lambrequin/lambrequinlaw13.PlanAll", spec := "planAll", unfollowed := true, recurses := true, apart := false }
def PlanAllSaid : Prop := planAllRow.holds Try.pinned (OpenSpec.ofChange planAllSpec)

/-- ITS FALSE NEIGHBOUR: 'it returns false'. Refute it at one input. -/
def planAllWrong : ChangeSpec := { name := "planAll", fn := fun _ => fun
  | [d1, d2] => { results := [.lit (.bool false)], args := [d1, d2] }
  | _ => none }
def PlanAllWrongFalsely : Prop := planAllRow.holds Try.pinned (OpenSpec.ofChange planAllWrong)

/-- 'lambrequinlaw13.PlanEarly': WHATEVER THE INPUT: true; the input reads as it did. -/
def planEarlySpec : ChangeSpec := { name := "planEarly", fn := fun _ => fun
  | [d] => { results := [.lit (.bool true)], args := [d] }
  | _ => none }
def planEarlyRow : OpenClaim := { program := "ythpejcnldecmoaa", sum := "f2f49bfbcb6e7865c42de8a01d9db0cf1a126028817958d56e8b1a81befaaea2", func := "lambrequin/lambrequinlaw13.PlanEarly", spec := "planEarly", unfollowed := true, recurses := true, apart := false }
def PlanEarlySaid : Prop := planEarlyRow.holds Try.pinned (OpenSpec.ofChange planEarlySpec)

/-- ITS FALSE NEIGHBOUR: 'it returns false'. Refute it at one input. -/
def planEarlyWrong : ChangeSpec := { name := "planEarly", fn := fun _ => fun
  | [d] => { results := [.lit (.bool false)], args := [d] }
  | _ => none }
def PlanEarlyWrongFalsely : Prop := planEarlyRow.holds Try.pinned (OpenSpec.ofChange planEarlyWrong)

/-- 'lambrequinlaw13.PlanCols': WHATEVER THE INPUT: true; the input reads as it did. -/
def planColsSpec : ChangeSpec := { name := "planCols", fn := fun _ => fun
  | [d1, d2, d3] => { results := [.lit (.bool true)], args := [d1, d2, d3] }
  | _ => none }
def planColsRow : OpenClaim := { program := "ythpejcnldecmoaa", sum := "f2f49bfbcb6e7865c42de8a01d9db0cf1a126028817958d56e8b1a81befaaea2", func := "lambrequin/lambrequinlaw13.PlanCols", spec := "planCols", unfollowed := true, recurses := true, apart := false }
def PlanColsSaid : Prop := planColsRow.holds Try.pinned (OpenSpec.ofChange planColsSpec)

/-- ITS FALSE NEIGHBOUR: 'it returns false'. Refute it at one input. -/
def planColsWrong : ChangeSpec := { name := "planCols", fn := fun _ => fun
  | [d1, d2, d3] => { results := [.lit (.bool false)], args := [d1, d2, d3] }
  | _ => none }
def PlanColsWrongFalsely : Prop := planColsRow.holds Try.pinned (OpenSpec.ofChange planColsWrong)

/-- 'lambrequinlaw13.PlanGreedy': WHATEVER THE INPUT: true; the input reads as it did. -/
def planGreedySpec : ChangeSpec := { name := "planGreedy", fn := fun _ => fun
  | [d] => { results := [.lit (.bool true)], args := [d] }
  | _ => none }
def planGreedyRow : OpenClaim := { program := "ythpejcnldecmoaa", sum := "f2f49bfbcb6e7865c42de8a01d9db0cf1a126028817958d56e8b1a81befaaea2", func := "lambrequin/lambrequinlaw13.PlanGreedy", spec := "planGreedy", unfollowed := true, recurses := true, apart := false }
def PlanGreedySaid : Prop := planGreedyRow.holds Try.pinned (OpenSpec.ofChange planGreedySpec)

/-- ITS FALSE NEIGHBOUR: 'it returns false'. Refute it at one input. -/
def planGreedyWrong : ChangeSpec := { name := "planGreedy", fn := fun _ => fun
  | [d] => { results := [.lit (.bool false)], args := [d] }
  | _ => none }
def PlanGreedyWrongFalsely : Prop := planGreedyRow.holds Try.pinned (OpenSpec.ofChange planGreedyWrong)

/-- 'lambrequinlaw09.SafeJust': WHATEVER THE INPUT: true; the input reads as it did. -/
def safeJustSpec : ChangeSpec := { name := "safeJust", fn := fun _ => fun
  | [d] => { results := [.lit (.bool true)], args := [d] }
  | _ => none }
def safeJustRow : OpenClaim := { program := "ythpejcnldecmoaa", sum := "f2f49bfbcb6e7865c42de8a01d9db0cf1a126028817958d56e8b1a81befaaea2", func := "lambrequin/lambrequinlaw09.SafeJust", spec := "safeJust", unfollowed := true, recurses := true, apart := false }
def SafeJustSaid : Prop := safeJustRow.holds Try.pinned (OpenSpec.ofChange safeJustSpec)

/-- ITS FALSE NEIGHBOUR: 'it returns false'. Refute it at one input. -/
def safeJustWrong : ChangeSpec := { name := "safeJust", fn := fun _ => fun
  | [d] => { results := [.lit (.bool false)], args := [d] }
  | _ => none }
def SafeJustWrongFalsely : Prop := safeJustRow.holds Try.pinned (OpenSpec.ofChange safeJustWrong)

/-- 'lambrequinlaw09.SafeOrder': WHATEVER THE INPUT: true; the input reads as it did. -/
def safeOrderSpec : ChangeSpec := { name := "safeOrder", fn := fun _ => fun
  | [d1, d2] => { results := [.lit (.bool true)], args := [d1, d2] }
  | _ => none }
def safeOrderRow : OpenClaim := { program := "ythpejcnldecmoaa", sum := "f2f49bfbcb6e7865c42de8a01d9db0cf1a126028817958d56e8b1a81befaaea2", func := "lambrequin/lambrequinlaw09.SafeOrder", spec := "safeOrder", unfollowed := true, recurses := true, apart := false }
def SafeOrderSaid : Prop := safeOrderRow.holds Try.pinned (OpenSpec.ofChange safeOrderSpec)

/-- ITS FALSE NEIGHBOUR: 'it returns false'. Refute it at one input. -/
def safeOrderWrong : ChangeSpec := { name := "safeOrder", fn := fun _ => fun
  | [d1, d2] => { results := [.lit (.bool false)], args := [d1, d2] }
  | _ => none }
def SafeOrderWrongFalsely : Prop := safeOrderRow.holds Try.pinned (OpenSpec.ofChange safeOrderWrong)

/-- 'lambrequinlaw09.SafeBinds': WHATEVER THE INPUT: true; the input reads as it did. -/
def safeBindsSpec : ChangeSpec := { name := "safeBinds", fn := fun _ => fun
  | [d1, d2] => { results := [.lit (.bool true)], args := [d1, d2] }
  | _ => none }
def safeBindsRow : OpenClaim := { program := "ythpejcnldecmoaa", sum := "f2f49bfbcb6e7865c42de8a01d9db0cf1a126028817958d56e8b1a81befaaea2", func := "lambrequin/lambrequinlaw09.SafeBinds", spec := "safeBinds", unfollowed := true, recurses := true, apart := false }
def SafeBindsSaid : Prop := safeBindsRow.holds Try.pinned (OpenSpec.ofChange safeBindsSpec)

/-- ITS FALSE NEIGHBOUR: 'it returns false'. Refute it at one input. -/
def safeBindsWrong : ChangeSpec := { name := "safeBinds", fn := fun _ => fun
  | [d1, d2] => { results := [.lit (.bool false)], args := [d1, d2] }
  | _ => none }
def SafeBindsWrongFalsely : Prop := safeBindsRow.holds Try.pinned (OpenSpec.ofChange safeBindsWrong)

/-- 'lambrequinlaw09.SafeVars': WHATEVER THE INPUT: true; the input reads as it did. -/
def safeVarsSpec : ChangeSpec := { name := "safeVars", fn := fun _ => fun
  | [d] => { results := [.lit (.bool true)], args := [d] }
  | _ => none }
def safeVarsRow : OpenClaim := { program := "ythpejcnldecmoaa", sum := "f2f49bfbcb6e7865c42de8a01d9db0cf1a126028817958d56e8b1a81befaaea2", func := "lambrequin/lambrequinlaw09.SafeVars", spec := "safeVars", unfollowed := true, recurses := true, apart := false }
def SafeVarsSaid : Prop := safeVarsRow.holds Try.pinned (OpenSpec.ofChange safeVarsSpec)

/-- ITS FALSE NEIGHBOUR: 'it returns false'. Refute it at one input. -/
def safeVarsWrong : ChangeSpec := { name := "safeVars", fn := fun _ => fun
  | [d] => { results := [.lit (.bool false)], args := [d] }
  | _ => none }
def SafeVarsWrongFalsely : Prop := safeVarsRow.holds Try.pinned (OpenSpec.ofChange safeVarsWrong)

/-- 'lambrequinlaw09.SafeDrops': WHATEVER THE INPUT: true; the input reads as it did. -/
def safeDropsSpec : ChangeSpec := { name := "safeDrops", fn := fun _ => fun
  | [d1, d2] => { results := [.lit (.bool true)], args := [d1, d2] }
  | _ => none }
def safeDropsRow : OpenClaim := { program := "ythpejcnldecmoaa", sum := "f2f49bfbcb6e7865c42de8a01d9db0cf1a126028817958d56e8b1a81befaaea2", func := "lambrequin/lambrequinlaw09.SafeDrops", spec := "safeDrops", unfollowed := true, recurses := true, apart := false }
def SafeDropsSaid : Prop := safeDropsRow.holds Try.pinned (OpenSpec.ofChange safeDropsSpec)

/-- ITS FALSE NEIGHBOUR: 'it returns false'. Refute it at one input. -/
def safeDropsWrong : ChangeSpec := { name := "safeDrops", fn := fun _ => fun
  | [d1, d2] => { results := [.lit (.bool false)], args := [d1, d2] }
  | _ => none }
def SafeDropsWrongFalsely : Prop := safeDropsRow.holds Try.pinned (OpenSpec.ofChange safeDropsWrong)

/-- 'lambrequinlaw09.SafeTells': WHATEVER THE INPUT: true; the input reads as it did. -/
def safeTellsSpec : ChangeSpec := { name := "safeTells", fn := fun _ => fun
  | [d1, d2] => { results := [.lit (.bool true)], args := [d1, d2] }
  | _ => none }
def safeTellsRow : OpenClaim := { program := "ythpejcnldecmoaa", sum := "f2f49bfbcb6e7865c42de8a01d9db0cf1a126028817958d56e8b1a81befaaea2", func := "lambrequin/lambrequinlaw09.SafeTells", spec := "safeTells", unfollowed := true, recurses := true, apart := false }
def SafeTellsSaid : Prop := safeTellsRow.holds Try.pinned (OpenSpec.ofChange safeTellsSpec)

/-- ITS FALSE NEIGHBOUR: 'it returns false'. Refute it at one input. -/
def safeTellsWrong : ChangeSpec := { name := "safeTells", fn := fun _ => fun
  | [d1, d2] => { results := [.lit (.bool false)], args := [d1, d2] }
  | _ => none }
def SafeTellsWrongFalsely : Prop := safeTellsRow.holds Try.pinned (OpenSpec.ofChange safeTellsWrong)

/-- 'lambrequinlaw13.PlanSafe': WHATEVER THE INPUT: true; the input reads as it did. -/
def planSafeSpec : ChangeSpec := { name := "planSafe", fn := fun _ => fun
  | [d] => { results := [.lit (.bool true)], args := [d] }
  | _ => none }
def planSafeRow : OpenClaim := { program := "ythpejcnldecmoaa", sum := "f2f49bfbcb6e7865c42de8a01d9db0cf1a126028817958d56e8b1a81befaaea2", func := "lambrequin/lambrequinlaw13.PlanSafe", spec := "planSafe", unfollowed := true, recurses := true, apart := false }
def PlanSafeSaid : Prop := planSafeRow.holds Try.pinned (OpenSpec.ofChange planSafeSpec)

/-- ITS FALSE NEIGHBOUR: 'it returns false'. Refute it at one input. -/
def planSafeWrong : ChangeSpec := { name := "planSafe", fn := fun _ => fun
  | [d] => { results := [.lit (.bool false)], args := [d] }
  | _ => none }
def PlanSafeWrongFalsely : Prop := planSafeRow.holds Try.pinned (OpenSpec.ofChange planSafeWrong)

/- THE SECOND FORM. 'bulk': how many values and letters a reading holds, each counted each time it is reached (what is shared counts as often as it is met; a slice's spare places count too). A statement '..UptoSaid' is the law's where the arguments, and the package variables that the reading takes, are together of bulk at most 1048576: NARROWER than '..Said'. Prove '..Said' where nothing that the law and all that it calls make is longer than what came in: it says more and counts as full. Else prove '..UptoSaid'. A law counts once. -/
mutual
def uptoBulk {H : Type} : DataW H → Nat
  | .lit (.string bytes) => bytes.length + 1
  | .lit _ => 1
  | .nil => 1
  | .ptr d => uptoBulk d + 1
  | .slice elems spare => uptoBulkAll elems + uptoBulkAll spare + 1
  | .agg parts => uptoBulkAll parts + 1
  | .iface _ d => uptoBulk d + 1
  | .map entries => uptoBulkEntries entries + 1
  | .held _ => 1
def uptoBulkAll {H : Type} : List (DataW H) → Nat
  | [] => 0
  | d :: r => uptoBulk d + uptoBulkAll r
def uptoBulkEntries {H : Type} : List (Lit × DataW H) → Nat
  | [] => 0
  | x :: r => uptoBulkEntry x + uptoBulkEntries r
def uptoBulkEntry {H : Type} : Lit × DataW H → Nat
  | (.string bytes, d) => bytes.length + uptoBulk d + 1
  | (_, d) => uptoBulk d + 1
 end
def uptoSmall : (H : Type) → List (DataW H) → Bool := fun _ ds => decide (uptoBulkAll ds ≤ 1048576)
def OpenSpec.upto (s : _root_.Go.ChangeSpec) : _root_.Go.OpenSpec := { _root_.Go.OpenSpec.ofChange s with cond := some uptoSmall }

/-- 'lambrequinlaw13.PlanTells', WHERE WHAT IT READS IS OF BULK AT MOST 1048576: true; the input reads as it did. -/
def planTellsUptoRow : OpenClaim := { program := "ythpejcnldecmoaa", sum := "f2f49bfbcb6e7865c42de8a01d9db0cf1a126028817958d56e8b1a81befaaea2", func := "lambrequin/lambrequinlaw13.PlanTells", spec := "planTells", unfollowed := true, recurses := true, apart := false, narrowed := true }
def PlanTellsUptoSaid : Prop := planTellsUptoRow.holds Try.pinned (OpenSpec.upto planTellsSpec)

/-- 'lambrequinlaw13.PlanAll', WHERE WHAT IT READS IS OF BULK AT MOST 1048576: true; the input reads as it did. -/
def planAllUptoRow : OpenClaim := { program := "ythpejcnldecmoaa", sum := "f2f49bfbcb6e7865c42de8a01d9db0cf1a126028817958d56e8b1a81befaaea2", func := "lambrequin/lambrequinlaw13.PlanAll", spec := "planAll", unfollowed := true, recurses := true, apart := false, narrowed := true }
def PlanAllUptoSaid : Prop := planAllUptoRow.holds Try.pinned (OpenSpec.upto planAllSpec)

/-- 'lambrequinlaw13.PlanEarly', WHERE WHAT IT READS IS OF BULK AT MOST 1048576: true; the input reads as it did. -/
def planEarlyUptoRow : OpenClaim := { program := "ythpejcnldecmoaa", sum := "f2f49bfbcb6e7865c42de8a01d9db0cf1a126028817958d56e8b1a81befaaea2", func := "lambrequin/lambrequinlaw13.PlanEarly", spec := "planEarly", unfollowed := true, recurses := true, apart := false, narrowed := true }
def PlanEarlyUptoSaid : Prop := planEarlyUptoRow.holds Try.pinned (OpenSpec.upto planEarlySpec)

/-- 'lambrequinlaw13.PlanCols', WHERE WHAT IT READS IS OF BULK AT MOST 1048576: true; the input reads as it did. -/
def planColsUptoRow : OpenClaim := { program := "ythpejcnldecmoaa", sum := "f2f49bfbcb6e7865c42de8a01d9db0cf1a126028817958d56e8b1a81befaaea2", func := "lambrequin/lambrequinlaw13.PlanCols", spec := "planCols", unfollowed := true, recurses := true, apart := false, narrowed := true }
def PlanColsUptoSaid : Prop := planColsUptoRow.holds Try.pinned (OpenSpec.upto planColsSpec)

/-- 'lambrequinlaw13.PlanGreedy', WHERE WHAT IT READS IS OF BULK AT MOST 1048576: true; the input reads as it did. -/
def planGreedyUptoRow : OpenClaim := { program := "ythpejcnldecmoaa", sum := "f2f49bfbcb6e7865c42de8a01d9db0cf1a126028817958d56e8b1a81befaaea2", func := "lambrequin/lambrequinlaw13.PlanGreedy", spec := "planGreedy", unfollowed := true, recurses := true, apart := false, narrowed := true }
def PlanGreedyUptoSaid : Prop := planGreedyUptoRow.holds Try.pinned (OpenSpec.upto planGreedySpec)

/-- 'lambrequinlaw09.SafeJust', WHERE WHAT IT READS IS OF BULK AT MOST 1048576: true; the input reads as it did. -/
def safeJustUptoRow : OpenClaim := { program := "ythpejcnldecmoaa", sum := "f2f49bfbcb6e7865c42de8a01d9db0cf1a126028817958d56e8b1a81befaaea2", func := "lambrequin/lambrequinlaw09.SafeJust", spec := "safeJust", unfollowed := true, recurses := true, apart := false, narrowed := true }
def SafeJustUptoSaid : Prop := safeJustUptoRow.holds Try.pinned (OpenSpec.upto safeJustSpec)

/-- 'lambrequinlaw09.SafeOrder', WHERE WHAT IT READS IS OF BULK AT MOST 1048576: true; the input reads as it did. -/
def safeOrderUptoRow : OpenClaim := { program := "ythpejcnldecmoaa", sum := "f2f49bfbcb6e7865c42de8a01d9db0cf1a126028817958d56e8b1a81befaaea2", func := "lambrequin/lambrequinlaw09.SafeOrder", spec := "safeOrder", unfollowed := true, recurses := true, apart := false, narrowed := true }
def SafeOrderUptoSaid : Prop := safeOrderUptoRow.holds Try.pinned (OpenSpec.upto safeOrderSpec)

/-- 'lambrequinlaw09.SafeBinds', WHERE WHAT IT READS IS OF BULK AT MOST 1048576: true; the input reads as it did. -/
def safeBindsUptoRow : OpenClaim := { program := "ythpejcnldecmoaa", sum := "f2f49bfbcb6e7865c42de8a01d9db0cf1a126028817958d56e8b1a81befaaea2", func := "lambrequin/lambrequinlaw09.SafeBinds", spec := "safeBinds", unfollowed := true, recurses := true, apart := false, narrowed := true }
def SafeBindsUptoSaid : Prop := safeBindsUptoRow.holds Try.pinned (OpenSpec.upto safeBindsSpec)

/-- 'lambrequinlaw09.SafeVars', WHERE WHAT IT READS IS OF BULK AT MOST 1048576: true; the input reads as it did. -/
def safeVarsUptoRow : OpenClaim := { program := "ythpejcnldecmoaa", sum := "f2f49bfbcb6e7865c42de8a01d9db0cf1a126028817958d56e8b1a81befaaea2", func := "lambrequin/lambrequinlaw09.SafeVars", spec := "safeVars", unfollowed := true, recurses := true, apart := false, narrowed := true }
def SafeVarsUptoSaid : Prop := safeVarsUptoRow.holds Try.pinned (OpenSpec.upto safeVarsSpec)

/-- 'lambrequinlaw09.SafeDrops', WHERE WHAT IT READS IS OF BULK AT MOST 1048576: true; the input reads as it did. -/
def safeDropsUptoRow : OpenClaim := { program := "ythpejcnldecmoaa", sum := "f2f49bfbcb6e7865c42de8a01d9db0cf1a126028817958d56e8b1a81befaaea2", func := "lambrequin/lambrequinlaw09.SafeDrops", spec := "safeDrops", unfollowed := true, recurses := true, apart := false, narrowed := true }
def SafeDropsUptoSaid : Prop := safeDropsUptoRow.holds Try.pinned (OpenSpec.upto safeDropsSpec)

/-- 'lambrequinlaw09.SafeTells', WHERE WHAT IT READS IS OF BULK AT MOST 1048576: true; the input reads as it did. -/
def safeTellsUptoRow : OpenClaim := { program := "ythpejcnldecmoaa", sum := "f2f49bfbcb6e7865c42de8a01d9db0cf1a126028817958d56e8b1a81befaaea2", func := "lambrequin/lambrequinlaw09.SafeTells", spec := "safeTells", unfollowed := true, recurses := true, apart := false, narrowed := true }
def SafeTellsUptoSaid : Prop := safeTellsUptoRow.holds Try.pinned (OpenSpec.upto safeTellsSpec)

/-- 'lambrequinlaw13.PlanSafe', WHERE WHAT IT READS IS OF BULK AT MOST 1048576: true; the input reads as it did. -/
def planSafeUptoRow : OpenClaim := { program := "ythpejcnldecmoaa", sum := "f2f49bfbcb6e7865c42de8a01d9db0cf1a126028817958d56e8b1a81befaaea2", func := "lambrequin/lambrequinlaw13.PlanSafe", spec := "planSafe", unfollowed := true, recurses := true, apart := false, narrowed := true }
def PlanSafeUptoSaid : Prop := planSafeUptoRow.holds Try.pinned (OpenSpec.upto planSafeSpec)

end Rows
end Go.Proofs.Ythpejcnldecmoaa

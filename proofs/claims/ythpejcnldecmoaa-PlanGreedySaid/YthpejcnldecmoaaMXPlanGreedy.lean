/- RowPlanGreedy of the seat's law PlanGreedy: the law holds, under the statement's own conditions. -/
import Derived.Test.YthpejcnldecmoaaMA
import Derived.Test.YthpejcnldecmoaaMD
import Derived.Test.YthpejcnldecmoaaMC
import Derived.Test.YthpejcnldecmoaaMB
import Derived.Test.YthpejcnldecmoaaMD2
import Derived.Test.YthpejcnldecmoaaRows
import Derived.Test.YthpejcnldecmoaaWSized
import Derived.WalkKit
import Derived.ProofKit
import Derived.OpenShut
import Derived.ShutString
import Derived.ChangeOld
import Derived.Below
import Derived.SizedLaws
import Derived.Carry
-- made by a program of this session (wip/tools) out of the translation; Lean checks it.
namespace Go.Proofs.Ythpejcnldecmoaa.H
open Go.RowKit Go.Proofs.YthpejcnldecmoaaW.PrintWords Go.Proofs.YthpejcnldecmoaaW.PrintLast Go.Proofs.YthpejcnldecmoaaW.PrintMore
attribute [local go_sem] max2_int min2_int max_two min_two max_three min_three max_four min_four   -- for this text's walks alone
set_option linter.unusedVariables false
set_option linter.unusedSimpArgs false

/-! ### lambrequinlaw13_PlanGreedy: function 7 -/
mutual
def lambrequinlaw13_PlanGreedy.l0 : Nat → Bool → Int → ByteArray → List (Term) → List (Liter) → Option (Bool)
 | 0, _, _, _, _, _ => none
 | k + 1, x3, x4, x102000, x102001, x102002 => if x4 < (x102002.length : Int) then (if 0 ≤ x4 then (if ((rd_T47 x102002 x4).kind) = 1 then (lambrequinlaw13_PlanGreedy.l0 k x3 (wrap64 (x4 + 1)) x102000 x102001 x102002) else (some x3)) else (none)) else ((plan_Order.f x102000 x102001 x102002 (-1)).bind fun bt105 => (if bt105.2 = 0 then (lambrequinlaw13_PlanGreedy.j1 k x3 bt105.1 ((bt105.1.length : Int) != (x102002.length : Int)) x102000 x102001 x102002) else (lambrequinlaw13_PlanGreedy.j1 k x3 bt105.1 true x102000 x102001 x102002)))
def lambrequinlaw13_PlanGreedy.j1 : Nat → Bool → List Int → Bool → ByteArray → List (Term) → List (Liter) → Option (Bool)
 | 0, _, _, _, _, _, _ => none
 | k + 1, x3, x5, x46, x102000, x102001, x102002 => if x46 = true then (some false) else (lambrequinlaw13_PlanGreedy.l1 k x3 x5 ([] : List ByteArray) 0 x102000 x102001 x102002)
def lambrequinlaw13_PlanGreedy.l1 : Nat → Bool → List Int → List ByteArray → Int → ByteArray → List (Term) → List (Liter) → Option (Bool)
 | 0, _, _, _, _, _, _, _ => none
 | k + 1, x3, x5, x7, x8, x102000, x102001, x102002 => if x8 < (x5.length : Int) then (if 0 ≤ x8 then (if (rd x5 x8) < 0 then (lambrequinlaw13_PlanGreedy.j3 k x3 x5 x7 x8 true x102000 x102001 x102002) else (lambrequinlaw13_PlanGreedy.j3 k x3 x5 x7 x8 (decide ((rd x5 x8) ≥ (x102002.length : Int))) x102000 x102001 x102002)) else (none)) else (some x3)
def lambrequinlaw13_PlanGreedy.j3 : Nat → Bool → List Int → List ByteArray → Int → Bool → ByteArray → List (Term) → List (Liter) → Option (Bool)
 | 0, _, _, _, _, _, _, _, _ => none
 | k + 1, x3, x5, x7, x8, x67, x102000, x102001, x102002 => if x67 = true then (some false) else (if 0 ≤ x8 then (if x8 < (x5.length : Int) then (if 0 ≤ (rd x5 x8) then (if (rd x5 x8) < (x102002.length : Int) then ((plan_Cols.f k ((rd_T47 x102002 (rd x5 x8)).atom.pred) ((rd_T47 x102002 (rd x5 x8)).atom.args) x7).bind fun t113 => (lambrequinlaw13_PlanGreedy.l2 k x3 x5 x7 x8 (t113.length : Int) (wrap64 (x8 + 1)) x102000 x102001 x102002)) else (none)) else (none)) else (none)) else (none))
def lambrequinlaw13_PlanGreedy.l2 : Nat → Bool → List Int → List ByteArray → Int → Int → Int → ByteArray → List (Term) → List (Liter) → Option (Bool)
 | 0, _, _, _, _, _, _, _, _, _ => none
 | k + 1, x3, x5, x7, x8, x9, x10, x102000, x102001, x102002 => if x10 < (x5.length : Int) then (if 0 ≤ x10 then (if (rd x5 x10) < 0 then (lambrequinlaw13_PlanGreedy.j5 k x3 x5 x7 x8 x9 x10 true x102000 x102001 x102002) else (lambrequinlaw13_PlanGreedy.j5 k x3 x5 x7 x8 x9 x10 (decide ((rd x5 x10) ≥ (x102002.length : Int))) x102000 x102001 x102002)) else (none)) else (if 0 ≤ x8 then (if x8 < (x5.length : Int) then (if 0 ≤ (rd x5 x8) then (if (rd x5 x8) < (x102002.length : Int) then ((lambrequinref09_Vars.f k ((rd_T47 x102002 (rd x5 x8)).atom.pred) ((rd_T47 x102002 (rd x5 x8)).atom.args)).bind fun t118 => (if x7.length + t118.length < 8796093022208 then (lambrequinlaw13_PlanGreedy.l1 k x3 x5 (x7 ++ t118) (wrap64 (x8 + 1)) x102000 x102001 x102002) else (none))) else (none)) else (none)) else (none)) else (none))
def lambrequinlaw13_PlanGreedy.j5 : Nat → Bool → List Int → List ByteArray → Int → Int → Int → Bool → ByteArray → List (Term) → List (Liter) → Option (Bool)
 | 0, _, _, _, _, _, _, _, _, _, _ => none
 | k + 1, x3, x5, x7, x8, x9, x10, x102, x102000, x102001, x102002 => if x102 = true then (some false) else (if 0 ≤ x10 then (if x10 < (x5.length : Int) then (if 0 ≤ (rd x5 x10) then (if (rd x5 x10) < (x102002.length : Int) then ((plan_Cols.f k ((rd_T47 x102002 (rd x5 x10)).atom.pred) ((rd_T47 x102002 (rd x5 x10)).atom.args) x7).bind fun t128 => (if (t128.length : Int) > x9 then (lambrequinlaw13_PlanGreedy.j6 k x3 x5 x7 x8 x9 x10 true x102000 x102001 x102002) else (if (t128.length : Int) = x9 then (if 0 ≤ x8 then (if x8 < (x5.length : Int) then (lambrequinlaw13_PlanGreedy.j6 k x3 x5 x7 x8 x9 x10 (decide ((rd x5 x10) < (rd x5 x8))) x102000 x102001 x102002) else (none)) else (none)) else (lambrequinlaw13_PlanGreedy.j6 k x3 x5 x7 x8 x9 x10 false x102000 x102001 x102002)))) else (none)) else (none)) else (none)) else (none))
def lambrequinlaw13_PlanGreedy.j6 : Nat → Bool → List Int → List ByteArray → Int → Int → Int → Bool → ByteArray → List (Term) → List (Liter) → Option (Bool)
 | 0, _, _, _, _, _, _, _, _, _, _ => none
 | k + 1, x3, x5, x7, x8, x9, x10, x133, x102000, x102001, x102002 => if x133 = true then (some false) else (lambrequinlaw13_PlanGreedy.l2 k x3 x5 x7 x8 x9 (wrap64 (x10 + 1)) x102000 x102001 x102002)
end
def lambrequinlaw13_PlanGreedy.f (k : Nat) (a0_0 : ByteArray) (l0_1 : List (Term)) (l0_2 : List (Liter)) : Option (Bool) := (lambrequinlaw13_shown.f).bind fun t102 => ((lambrequinlaw13_few.f k a0_0 l0_1 l0_2).bind fun t103 => (if t103 = true then (lambrequinlaw13_PlanGreedy.l0 k t102 0 a0_0 l0_1 l0_2) else (some t102)))
theorem lambrequinlaw13_PlanGreedy.mono_l : ∀ k, (∀ y0 y1 y2 y3 y4, LeO (lambrequinlaw13_PlanGreedy.l0 k y0 y1 y2 y3 y4) (lambrequinlaw13_PlanGreedy.l0 (k + 1) y0 y1 y2 y3 y4)) ∧ (∀ y0 y1 y2 y3 y4 y5, LeO (lambrequinlaw13_PlanGreedy.j1 k y0 y1 y2 y3 y4 y5) (lambrequinlaw13_PlanGreedy.j1 (k + 1) y0 y1 y2 y3 y4 y5)) ∧ (∀ y0 y1 y2 y3 y4 y5 y6, LeO (lambrequinlaw13_PlanGreedy.l1 k y0 y1 y2 y3 y4 y5 y6) (lambrequinlaw13_PlanGreedy.l1 (k + 1) y0 y1 y2 y3 y4 y5 y6)) ∧ (∀ y0 y1 y2 y3 y4 y5 y6 y7, LeO (lambrequinlaw13_PlanGreedy.j3 k y0 y1 y2 y3 y4 y5 y6 y7) (lambrequinlaw13_PlanGreedy.j3 (k + 1) y0 y1 y2 y3 y4 y5 y6 y7)) ∧ (∀ y0 y1 y2 y3 y4 y5 y6 y7 y8, LeO (lambrequinlaw13_PlanGreedy.l2 k y0 y1 y2 y3 y4 y5 y6 y7 y8) (lambrequinlaw13_PlanGreedy.l2 (k + 1) y0 y1 y2 y3 y4 y5 y6 y7 y8)) ∧ (∀ y0 y1 y2 y3 y4 y5 y6 y7 y8 y9, LeO (lambrequinlaw13_PlanGreedy.j5 k y0 y1 y2 y3 y4 y5 y6 y7 y8 y9) (lambrequinlaw13_PlanGreedy.j5 (k + 1) y0 y1 y2 y3 y4 y5 y6 y7 y8 y9)) ∧ (∀ y0 y1 y2 y3 y4 y5 y6 y7 y8 y9, LeO (lambrequinlaw13_PlanGreedy.j6 k y0 y1 y2 y3 y4 y5 y6 y7 y8 y9) (lambrequinlaw13_PlanGreedy.j6 (k + 1) y0 y1 y2 y3 y4 y5 y6 y7 y8 y9))
 | 0 => ⟨fun _ _ _ _ _ r h => by simp [lambrequinlaw13_PlanGreedy.l0] at h, fun _ _ _ _ _ _ r h => by simp [lambrequinlaw13_PlanGreedy.j1] at h, fun _ _ _ _ _ _ _ r h => by simp [lambrequinlaw13_PlanGreedy.l1] at h, fun _ _ _ _ _ _ _ _ r h => by simp [lambrequinlaw13_PlanGreedy.j3] at h, fun _ _ _ _ _ _ _ _ _ r h => by simp [lambrequinlaw13_PlanGreedy.l2] at h, fun _ _ _ _ _ _ _ _ _ _ r h => by simp [lambrequinlaw13_PlanGreedy.j5] at h, fun _ _ _ _ _ _ _ _ _ _ r h => by simp [lambrequinlaw13_PlanGreedy.j6] at h⟩
 | k + 1 => by
  obtain ⟨ih0, ih1, ih2, ih3, ih4, ih5, ih6⟩ := lambrequinlaw13_PlanGreedy.mono_l k
  refine ⟨?_, ?_, ?_, ?_, ?_, ?_, ?_⟩
  ·intro y0 y1 y2 y3 y4
   unfold lambrequinlaw13_PlanGreedy.l0
   repeat' first
   | (with_reducible exact ih0 _ _ _ _ _)
   | (with_reducible exact ih1 _ _ _ _ _ _)
   | (with_reducible exact ih2 _ _ _ _ _ _ _)
   | (with_reducible exact ih3 _ _ _ _ _ _ _ _)
   | (with_reducible exact ih4 _ _ _ _ _ _ _ _ _)
   | (with_reducible exact ih5 _ _ _ _ _ _ _ _ _ _)
   | (with_reducible exact ih6 _ _ _ _ _ _ _ _ _ _)
   | (with_reducible exact lambrequinlaw13_few.mono _ _ _ _)
   | (with_reducible exact lambrequinref09_Vars.mono _ _ _)
   | (with_reducible exact plan_Cols.mono _ _ _ _)
   | (with_reducible exact LeO.refl _)
   | (with_reducible exact LeO.none _)
   | (with_reducible refine LeO.ite ?_ ?_)
   | (with_reducible refine LeO.bind ?_ (fun _ => ?_))
   | exact ih0 _ _ _ _ _
   | exact ih1 _ _ _ _ _ _
   | exact ih2 _ _ _ _ _ _ _
   | exact ih3 _ _ _ _ _ _ _ _
   | exact ih4 _ _ _ _ _ _ _ _ _
   | exact ih5 _ _ _ _ _ _ _ _ _ _
   | exact ih6 _ _ _ _ _ _ _ _ _ _
   | exact lambrequinlaw13_few.mono _ _ _ _
   | exact lambrequinref09_Vars.mono _ _ _
   | exact plan_Cols.mono _ _ _ _
   | exact LeO.none _
   | refine LeO.ite ?_ ?_
   | refine LeO.bind ?_ (fun _ => ?_)
  ·intro y0 y1 y2 y3 y4 y5
   unfold lambrequinlaw13_PlanGreedy.j1
   repeat' first
   | (with_reducible exact ih0 _ _ _ _ _)
   | (with_reducible exact ih1 _ _ _ _ _ _)
   | (with_reducible exact ih2 _ _ _ _ _ _ _)
   | (with_reducible exact ih3 _ _ _ _ _ _ _ _)
   | (with_reducible exact ih4 _ _ _ _ _ _ _ _ _)
   | (with_reducible exact ih5 _ _ _ _ _ _ _ _ _ _)
   | (with_reducible exact ih6 _ _ _ _ _ _ _ _ _ _)
   | (with_reducible exact lambrequinlaw13_few.mono _ _ _ _)
   | (with_reducible exact lambrequinref09_Vars.mono _ _ _)
   | (with_reducible exact plan_Cols.mono _ _ _ _)
   | (with_reducible exact LeO.refl _)
   | (with_reducible exact LeO.none _)
   | (with_reducible refine LeO.ite ?_ ?_)
   | (with_reducible refine LeO.bind ?_ (fun _ => ?_))
   | exact ih0 _ _ _ _ _
   | exact ih1 _ _ _ _ _ _
   | exact ih2 _ _ _ _ _ _ _
   | exact ih3 _ _ _ _ _ _ _ _
   | exact ih4 _ _ _ _ _ _ _ _ _
   | exact ih5 _ _ _ _ _ _ _ _ _ _
   | exact ih6 _ _ _ _ _ _ _ _ _ _
   | exact lambrequinlaw13_few.mono _ _ _ _
   | exact lambrequinref09_Vars.mono _ _ _
   | exact plan_Cols.mono _ _ _ _
   | exact LeO.none _
   | refine LeO.ite ?_ ?_
   | refine LeO.bind ?_ (fun _ => ?_)
  ·intro y0 y1 y2 y3 y4 y5 y6
   unfold lambrequinlaw13_PlanGreedy.l1
   repeat' first
   | (with_reducible exact ih0 _ _ _ _ _)
   | (with_reducible exact ih1 _ _ _ _ _ _)
   | (with_reducible exact ih2 _ _ _ _ _ _ _)
   | (with_reducible exact ih3 _ _ _ _ _ _ _ _)
   | (with_reducible exact ih4 _ _ _ _ _ _ _ _ _)
   | (with_reducible exact ih5 _ _ _ _ _ _ _ _ _ _)
   | (with_reducible exact ih6 _ _ _ _ _ _ _ _ _ _)
   | (with_reducible exact lambrequinlaw13_few.mono _ _ _ _)
   | (with_reducible exact lambrequinref09_Vars.mono _ _ _)
   | (with_reducible exact plan_Cols.mono _ _ _ _)
   | (with_reducible exact LeO.refl _)
   | (with_reducible exact LeO.none _)
   | (with_reducible refine LeO.ite ?_ ?_)
   | (with_reducible refine LeO.bind ?_ (fun _ => ?_))
   | exact ih0 _ _ _ _ _
   | exact ih1 _ _ _ _ _ _
   | exact ih2 _ _ _ _ _ _ _
   | exact ih3 _ _ _ _ _ _ _ _
   | exact ih4 _ _ _ _ _ _ _ _ _
   | exact ih5 _ _ _ _ _ _ _ _ _ _
   | exact ih6 _ _ _ _ _ _ _ _ _ _
   | exact lambrequinlaw13_few.mono _ _ _ _
   | exact lambrequinref09_Vars.mono _ _ _
   | exact plan_Cols.mono _ _ _ _
   | exact LeO.none _
   | refine LeO.ite ?_ ?_
   | refine LeO.bind ?_ (fun _ => ?_)
  ·intro y0 y1 y2 y3 y4 y5 y6 y7
   unfold lambrequinlaw13_PlanGreedy.j3
   repeat' first
   | (with_reducible exact ih0 _ _ _ _ _)
   | (with_reducible exact ih1 _ _ _ _ _ _)
   | (with_reducible exact ih2 _ _ _ _ _ _ _)
   | (with_reducible exact ih3 _ _ _ _ _ _ _ _)
   | (with_reducible exact ih4 _ _ _ _ _ _ _ _ _)
   | (with_reducible exact ih5 _ _ _ _ _ _ _ _ _ _)
   | (with_reducible exact ih6 _ _ _ _ _ _ _ _ _ _)
   | (with_reducible exact lambrequinlaw13_few.mono _ _ _ _)
   | (with_reducible exact lambrequinref09_Vars.mono _ _ _)
   | (with_reducible exact plan_Cols.mono _ _ _ _)
   | (with_reducible exact LeO.refl _)
   | (with_reducible exact LeO.none _)
   | (with_reducible refine LeO.ite ?_ ?_)
   | (with_reducible refine LeO.bind ?_ (fun _ => ?_))
   | exact ih0 _ _ _ _ _
   | exact ih1 _ _ _ _ _ _
   | exact ih2 _ _ _ _ _ _ _
   | exact ih3 _ _ _ _ _ _ _ _
   | exact ih4 _ _ _ _ _ _ _ _ _
   | exact ih5 _ _ _ _ _ _ _ _ _ _
   | exact ih6 _ _ _ _ _ _ _ _ _ _
   | exact lambrequinlaw13_few.mono _ _ _ _
   | exact lambrequinref09_Vars.mono _ _ _
   | exact plan_Cols.mono _ _ _ _
   | exact LeO.none _
   | refine LeO.ite ?_ ?_
   | refine LeO.bind ?_ (fun _ => ?_)
  ·intro y0 y1 y2 y3 y4 y5 y6 y7 y8
   unfold lambrequinlaw13_PlanGreedy.l2
   repeat' first
   | (with_reducible exact ih0 _ _ _ _ _)
   | (with_reducible exact ih1 _ _ _ _ _ _)
   | (with_reducible exact ih2 _ _ _ _ _ _ _)
   | (with_reducible exact ih3 _ _ _ _ _ _ _ _)
   | (with_reducible exact ih4 _ _ _ _ _ _ _ _ _)
   | (with_reducible exact ih5 _ _ _ _ _ _ _ _ _ _)
   | (with_reducible exact ih6 _ _ _ _ _ _ _ _ _ _)
   | (with_reducible exact lambrequinlaw13_few.mono _ _ _ _)
   | (with_reducible exact lambrequinref09_Vars.mono _ _ _)
   | (with_reducible exact plan_Cols.mono _ _ _ _)
   | (with_reducible exact LeO.refl _)
   | (with_reducible exact LeO.none _)
   | (with_reducible refine LeO.ite ?_ ?_)
   | (with_reducible refine LeO.bind ?_ (fun _ => ?_))
   | exact ih0 _ _ _ _ _
   | exact ih1 _ _ _ _ _ _
   | exact ih2 _ _ _ _ _ _ _
   | exact ih3 _ _ _ _ _ _ _ _
   | exact ih4 _ _ _ _ _ _ _ _ _
   | exact ih5 _ _ _ _ _ _ _ _ _ _
   | exact ih6 _ _ _ _ _ _ _ _ _ _
   | exact lambrequinlaw13_few.mono _ _ _ _
   | exact lambrequinref09_Vars.mono _ _ _
   | exact plan_Cols.mono _ _ _ _
   | exact LeO.none _
   | refine LeO.ite ?_ ?_
   | refine LeO.bind ?_ (fun _ => ?_)
  ·intro y0 y1 y2 y3 y4 y5 y6 y7 y8 y9
   unfold lambrequinlaw13_PlanGreedy.j5
   repeat' first
   | (with_reducible exact ih0 _ _ _ _ _)
   | (with_reducible exact ih1 _ _ _ _ _ _)
   | (with_reducible exact ih2 _ _ _ _ _ _ _)
   | (with_reducible exact ih3 _ _ _ _ _ _ _ _)
   | (with_reducible exact ih4 _ _ _ _ _ _ _ _ _)
   | (with_reducible exact ih5 _ _ _ _ _ _ _ _ _ _)
   | (with_reducible exact ih6 _ _ _ _ _ _ _ _ _ _)
   | (with_reducible exact lambrequinlaw13_few.mono _ _ _ _)
   | (with_reducible exact lambrequinref09_Vars.mono _ _ _)
   | (with_reducible exact plan_Cols.mono _ _ _ _)
   | (with_reducible exact LeO.refl _)
   | (with_reducible exact LeO.none _)
   | (with_reducible refine LeO.ite ?_ ?_)
   | (with_reducible refine LeO.bind ?_ (fun _ => ?_))
   | exact ih0 _ _ _ _ _
   | exact ih1 _ _ _ _ _ _
   | exact ih2 _ _ _ _ _ _ _
   | exact ih3 _ _ _ _ _ _ _ _
   | exact ih4 _ _ _ _ _ _ _ _ _
   | exact ih5 _ _ _ _ _ _ _ _ _ _
   | exact ih6 _ _ _ _ _ _ _ _ _ _
   | exact lambrequinlaw13_few.mono _ _ _ _
   | exact lambrequinref09_Vars.mono _ _ _
   | exact plan_Cols.mono _ _ _ _
   | exact LeO.none _
   | refine LeO.ite ?_ ?_
   | refine LeO.bind ?_ (fun _ => ?_)
  ·intro y0 y1 y2 y3 y4 y5 y6 y7 y8 y9
   unfold lambrequinlaw13_PlanGreedy.j6
   repeat' first
   | (with_reducible exact ih0 _ _ _ _ _)
   | (with_reducible exact ih1 _ _ _ _ _ _)
   | (with_reducible exact ih2 _ _ _ _ _ _ _)
   | (with_reducible exact ih3 _ _ _ _ _ _ _ _)
   | (with_reducible exact ih4 _ _ _ _ _ _ _ _ _)
   | (with_reducible exact ih5 _ _ _ _ _ _ _ _ _ _)
   | (with_reducible exact ih6 _ _ _ _ _ _ _ _ _ _)
   | (with_reducible exact lambrequinlaw13_few.mono _ _ _ _)
   | (with_reducible exact lambrequinref09_Vars.mono _ _ _)
   | (with_reducible exact plan_Cols.mono _ _ _ _)
   | (with_reducible exact LeO.refl _)
   | (with_reducible exact LeO.none _)
   | (with_reducible refine LeO.ite ?_ ?_)
   | (with_reducible refine LeO.bind ?_ (fun _ => ?_))
   | exact ih0 _ _ _ _ _
   | exact ih1 _ _ _ _ _ _
   | exact ih2 _ _ _ _ _ _ _
   | exact ih3 _ _ _ _ _ _ _ _
   | exact ih4 _ _ _ _ _ _ _ _ _
   | exact ih5 _ _ _ _ _ _ _ _ _ _
   | exact ih6 _ _ _ _ _ _ _ _ _ _
   | exact lambrequinlaw13_few.mono _ _ _ _
   | exact lambrequinref09_Vars.mono _ _ _
   | exact plan_Cols.mono _ _ _ _
   | exact LeO.none _
   | refine LeO.ite ?_ ?_
   | refine LeO.bind ?_ (fun _ => ?_)
theorem lambrequinlaw13_PlanGreedy.mono : ∀ a0 a1 a2 k, LeO (lambrequinlaw13_PlanGreedy.f k a0 a1 a2) (lambrequinlaw13_PlanGreedy.f (k + 1) a0 a1 a2) := by
 intro a0 a1 a2 k
 obtain ⟨ih0, ih1, ih2, ih3, ih4, ih5, ih6⟩ := lambrequinlaw13_PlanGreedy.mono_l k
 unfold lambrequinlaw13_PlanGreedy.f
 repeat' first
   | (with_reducible exact ih0 _ _ _ _ _)
   | (with_reducible exact ih1 _ _ _ _ _ _)
   | (with_reducible exact ih2 _ _ _ _ _ _ _)
   | (with_reducible exact ih3 _ _ _ _ _ _ _ _)
   | (with_reducible exact ih4 _ _ _ _ _ _ _ _ _)
   | (with_reducible exact ih5 _ _ _ _ _ _ _ _ _ _)
   | (with_reducible exact ih6 _ _ _ _ _ _ _ _ _ _)
   | (with_reducible exact lambrequinlaw13_few.mono _ _ _ _)
   | (with_reducible exact lambrequinref09_Vars.mono _ _ _)
   | (with_reducible exact plan_Cols.mono _ _ _ _)
   | (with_reducible exact LeO.refl _)
   | (with_reducible exact LeO.none _)
   | (with_reducible refine LeO.ite ?_ ?_)
   | (with_reducible refine LeO.bind ?_ (fun _ => ?_))
   | exact ih0 _ _ _ _ _
   | exact ih1 _ _ _ _ _ _
   | exact ih2 _ _ _ _ _ _ _
   | exact ih3 _ _ _ _ _ _ _ _
   | exact ih4 _ _ _ _ _ _ _ _ _
   | exact ih5 _ _ _ _ _ _ _ _ _ _
   | exact ih6 _ _ _ _ _ _ _ _ _ _
   | exact lambrequinlaw13_few.mono _ _ _ _
   | exact lambrequinref09_Vars.mono _ _ _
   | exact plan_Cols.mono _ _ _ _
   | exact LeO.none _
   | refine LeO.ite ?_ ?_
   | refine LeO.bind ?_ (fun _ => ?_)
def lambrequinlaw13_PlanGreedy.T16 : Bool × List (List Nat × List Nat) := (true, [([], []), ([], []), ([0, 1], [0, 1]), ([2], [2]), ([3], [3]), ([4], [4]), ([5], [5]), ([5], [5]), ([6, 7, 5], [5, 6, 7]), ([8, 5], [5, 8]), ([5], [5]), ([10, 5], [5, 10]), ([11, 5], [5, 11]), ([9, 12, 5], [5, 9, 12]), ([5, 13], [5, 13])])
def lambrequinlaw13_PlanGreedy.B16 : List Nat := [0, 0, 3, 7, 15, 31, 63, 63, 255, 511, 63, 1087, 3135, 8191, 16383]
theorem lambrequinlaw13_PlanGreedy.tab16 : rtab .any (opsOf Try.f7 16) = lambrequinlaw13_PlanGreedy.T16 := by kernel_rfl
theorem lambrequinlaw13_PlanGreedy.bits16 : waitsOk lambrequinlaw13_PlanGreedy.T16.2 lambrequinlaw13_PlanGreedy.B16 = true := by kernel_rfl
def lambrequinlaw13_PlanGreedy.T18 : Bool × List (List Nat × List Nat) := (true, [([], []), ([0], [0]), ([], []), ([], []), ([2, 3], [2, 3]), ([4], [4]), ([1, 5], [1, 5]), ([6], [6]), ([7], [7]), ([], []), ([8, 9], [8, 9]), ([10], [10]), ([11, 10, 0, 1, 2, 3, 4, 5, 6, 7, 8, 9, 10, 11], [11])])
def lambrequinlaw13_PlanGreedy.B18 : List Nat := [0, 1, 0, 0, 12, 28, 63, 127, 255, 0, 1023, 2047, 4095]
theorem lambrequinlaw13_PlanGreedy.tab18 : rtab .any (opsOf Try.f7 18) = lambrequinlaw13_PlanGreedy.T18 := by kernel_rfl
theorem lambrequinlaw13_PlanGreedy.bits18 : waitsOk lambrequinlaw13_PlanGreedy.T18.2 lambrequinlaw13_PlanGreedy.B18 = true := by kernel_rfl
def lambrequinlaw13_PlanGreedy.T22 : Bool × List (List Nat × List Nat) := (true, [([], []), ([], []), ([0, 1], [0, 1]), ([2], [2]), ([3], [3]), ([4], [4]), ([5], [5]), ([5], [5]), ([6, 7, 5], [5, 6, 7]), ([8, 5], [5, 8]), ([5], [5]), ([10, 5], [5, 10]), ([11, 5], [5, 11]), ([9, 12, 5], [5, 9, 12]), ([5, 13], [5, 13])])
def lambrequinlaw13_PlanGreedy.B22 : List Nat := [0, 0, 3, 7, 15, 31, 63, 63, 255, 511, 63, 1087, 3135, 8191, 16383]
theorem lambrequinlaw13_PlanGreedy.tab22 : rtab .any (opsOf Try.f7 22) = lambrequinlaw13_PlanGreedy.T22 := by kernel_rfl
theorem lambrequinlaw13_PlanGreedy.bits22 : waitsOk lambrequinlaw13_PlanGreedy.T22.2 lambrequinlaw13_PlanGreedy.B22 = true := by kernel_rfl
def lambrequinlaw13_PlanGreedy.T24 : Bool × List (List Nat × List Nat) := (true, [([], []), ([0], [0]), ([], []), ([], []), ([2, 3], [2, 3]), ([4], [4]), ([1, 5], [1, 5]), ([6], [6]), ([7], [7]), ([], []), ([8, 9], [8, 9]), ([10], [10]), ([11, 10, 0, 1, 2, 3, 4, 5, 6, 7, 8, 9, 10, 11], [11])])
def lambrequinlaw13_PlanGreedy.B24 : List Nat := [0, 1, 0, 0, 12, 28, 63, 127, 255, 0, 1023, 2047, 4095]
theorem lambrequinlaw13_PlanGreedy.tab24 : rtab .any (opsOf Try.f7 24) = lambrequinlaw13_PlanGreedy.T24 := by kernel_rfl
theorem lambrequinlaw13_PlanGreedy.bits24 : waitsOk lambrequinlaw13_PlanGreedy.T24.2 lambrequinlaw13_PlanGreedy.B24 = true := by kernel_rfl
def lambrequinlaw13_PlanGreedy.T25 : Bool × List (List Nat × List Nat) := (true, [([], []), ([], []), ([0, 1], [0, 1]), ([2], [2]), ([3], [3]), ([3], [3]), ([4, 5, 3], [3, 4, 5]), ([6, 3, 3], [3, 6]), ([7], [7]), ([7], [7]), ([8, 9, 7], [7, 8, 9]), ([10, 7], [7, 10]), ([7], [7]), ([7], [7]), ([12, 13, 7], [7, 12, 13]), ([14, 7], [7, 14]), ([11, 15, 7], [7, 11, 15]), ([7, 16, 3], [3, 7, 16]), ([3, 17], [3, 17])])
def lambrequinlaw13_PlanGreedy.B25 : List Nat := [0, 0, 3, 7, 15, 15, 63, 127, 255, 255, 1023, 2047, 255, 255, 12543, 28927, 65535, 131071, 262143]
theorem lambrequinlaw13_PlanGreedy.tab25 : rtab .any (opsOf Try.f7 25) = lambrequinlaw13_PlanGreedy.T25 := by kernel_rfl
theorem lambrequinlaw13_PlanGreedy.bits25 : waitsOk lambrequinlaw13_PlanGreedy.T25.2 lambrequinlaw13_PlanGreedy.B25 = true := by kernel_rfl
def lambrequinlaw13_PlanGreedy.T27 : Bool × List (List Nat × List Nat) := (true, [([], []), ([], []), ([1], [1]), ([], []), ([], []), ([3, 4], [3, 4]), ([5], [5]), ([2, 6], [2, 6]), ([7], [7]), ([8], [8]), ([9], [9]), ([0, 10, 10], [0, 10]), ([11, 11, 0, 1, 2, 3, 4, 5, 6, 7, 8, 9, 10, 11], [0, 11])])
def lambrequinlaw13_PlanGreedy.B27 : List Nat := [0, 0, 2, 0, 0, 24, 56, 126, 254, 510, 1022, 2047, 4095]
theorem lambrequinlaw13_PlanGreedy.tab27 : rtab .any (opsOf Try.f7 27) = lambrequinlaw13_PlanGreedy.T27 := by kernel_rfl
theorem lambrequinlaw13_PlanGreedy.bits27 : waitsOk lambrequinlaw13_PlanGreedy.T27.2 lambrequinlaw13_PlanGreedy.B27 = true := by kernel_rfl
set_option maxHeartbeats 8000000 in
set_option maxRecDepth 100000 in
theorem lambrequinlaw13_PlanGreedy.calls (k : Nat) (a0_0 : ByteArray) (A0_1 : Option Addr) (c0_1 : Nat) (l0_1 : List (Term)) (A0_2 : Option Addr) (c0_2 : Nat) (l0_2 : List (Liter)) (r : Bool) (w : World) (hr0_1 : Kd.C k45 w A0_1 l0_1.length l0_1) (hc0_1 : l0_1.length ≤ c0_1) (hr0_2 : Kd.C k47 w A0_2 l0_2.length l0_2) (hc0_2 : l0_2.length ≤ c0_2) (h : lambrequinlaw13_PlanGreedy.f k a0_0 l0_1 l0_2 = some r) :
  Calls Try.prog 7 #[.agg #[.string a0_0, .slice A0_1 l0_1.length c0_1, .slice A0_2 l0_2.length c0_2]] w fun e w' => e = .returned (.bool r) ∧ Below w.heap.size w w' := by
 have hu27 := Try.underlying27
 have hu24 := Try.underlying24
 have HR0_1 := Aside0.mk hr0_1
 have HC0_1 := Aside0.mk hc0_1
 clear hr0_1 hc0_1
 have HR0_2 := Aside0.mk hr0_2
 have HC0_2 := Aside0.mk hc0_2
 clear hr0_2 hc0_2
 have HB := Aside0.mk (Below.refl w.heap.size w)
 have H : ((lambrequinlaw13_shown.f).bind fun t102 => ((lambrequinlaw13_few.f k a0_0 l0_1 l0_2).bind fun t103 => (if t103 = true then (lambrequinlaw13_PlanGreedy.l0 k t102 0 a0_0 l0_1 l0_2) else (some t102)))) = some r := h
 clear h
 replace H := Option.bind_eq_some_iff.mp H
 obtain ⟨t102, A20, H⟩ := H
 replace H : ((lambrequinlaw13_few.f k a0_0 l0_1 l0_2).bind fun t103 => (if t103 = true then (lambrequinlaw13_PlanGreedy.l0 k t102 0 a0_0 l0_1 l0_2) else (some t102))) = some r := H
 have A2 := Aside0.mk A20
 clear A20
 replace H := Option.bind_eq_some_iff.mp H
 obtain ⟨t103, A30, H⟩ := H
 replace H : (if t103 = true then (lambrequinlaw13_PlanGreedy.l0 k t102 0 a0_0 l0_1 l0_2) else (some t102)) = some r := H
 have A3 := Aside0.mk A30
 clear A30
 by_cases c4 : t103 = true
 ·subst c4
  have H1 : (lambrequinlaw13_PlanGreedy.l0 k t102 0 a0_0 l0_1 l0_2) = some r := by rw [if_pos rfl] at H; exact H
  clear H
  have H := H1
  clear H1
  have H' := Aside0.mk H
  clear H
  go_enter Try.func7, Try.ntmps7
  go_wp2_with (first | ((with_reducible refine gate_dst (N := 1) rfl ?_); (try (refine gate_guard (by rfl) ?_; dsimp only)); refine box_event ?hg (N := 1) ?hd (cs := #[.string a0_0, .slice A0_1 l0_1.length c0_1, .slice A0_2 l0_2.length c0_2]) (t := 27) ?hr ?_; (case hd => rfl); (case hg => rfl); (case hr => first | (go_simp; done) | (go_simp; rfl)); intro gb101 hg w5 hbox hb; have n0_ := Aside0.mk (below_step (by repeat (first | (with_reducible first | exact HB.out | apply below_alloc | apply pw_below_drewN | apply below_drew1) | exact HB.out)) hb); have n1_ := Aside0.mk (hbox); have n2_ := Aside0.mk ((by rw [hg]; exact (below_size (by repeat (first | (with_reducible first | exact HB.out | apply below_alloc | apply pw_below_drewN | apply below_drew1) | exact HB.out))) : w.heap.size ≤ gb101)); have n3_ := Aside0.mk ((by rw [hg]; exact (below_size (by repeat (first | (with_reducible first | exact HB.out | apply below_alloc | apply pw_below_drewN | apply below_drew1) | exact HB.out))) : w.heap.size ≤ gb101)); clear HB; have HB := n0_; have BK101 := n1_; have GW101 := n2_; have GE101 := n3_; clear n0_ n1_ n2_ n3_; clear hb hbox hg) | ((with_reducible refine gate_callee (f := 15) rfl ?_); refine goesL_ (some 12) rfl rfl Try.func15 (by kernel_rfl) rfl #[] rfl (by (try simp only [List.map_toArray, List.map_cons, List.map_nil]); first | done | rfl | (simp only [List.length_drop, List.length_take]; rfl)) ?_; (with_reducible refine (lambrequinlaw13_shown.calls  t102 _ A2.out).mono ?_); rintro e w6 ⟨rfl, hb⟩; refine ⟨_, rfl, ?_⟩; have n0_ := Aside0.mk (blk_below (g := gb101) (o := .cells #[.string a0_0, .slice A0_1 l0_1.length c0_1, .slice A0_2 l0_2.length c0_2] 27 (0, 0)) (by (with_reducible repeat (first | refine blk_drewN ?_ _ | refine blk_drew ?_ | refine blk_alloc ?_ _)); exact BK101.out) hb); have n1_ := Aside0.mk (below_step (by repeat (first | (with_reducible first | exact HB.out | apply below_alloc | apply pw_below_drewN | apply below_drew1 | refine below_set ?_ GE101.out) | exact HB.out)) hb); clear BK101; clear HB; have BK101 := n0_; have HB := n1_; clear n0_ n1_; (try clear hb); (try clear hb2); (try clear hk); (try clear hi); have hcz7_0 : w6.cell? ⟨gb101, 0, none⟩ = some (.string a0_0) := (blk_cell BK101.out 0).trans rfl; have hcz7_1 : w6.cell? ⟨gb101, 1, none⟩ = some (.slice A0_1 l0_1.length c0_1) := (blk_cell BK101.out 1).trans rfl; have hcz7_2 : w6.cell? ⟨gb101, 2, none⟩ = some (.slice A0_2 l0_2.length c0_2) := (blk_cell BK101.out 2).trans rfl; have hfz7_0 := blk_frozen BK101.out 0; have hfz7_1 := blk_frozen BK101.out 1; have hfz7_2 := blk_frozen BK101.out 2) | ((with_reducible refine gate_callee (f := 16) rfl ?_); refine goesL_ (some 14) rfl rfl Try.func16 (by kernel_rfl) rfl #[.agg #[.string a0_0, .slice A0_1 l0_1.length c0_1, .slice A0_2 l0_2.length c0_2]] rfl (by (try simp only [List.map_toArray, List.map_cons, List.map_nil]); first | done | rfl | (simp only [List.length_drop, List.length_take]; rfl)) ?_; (with_reducible refine (lambrequinlaw13_few.calls k a0_0 _ _ l0_1 _ _ l0_2 true _ ?side1 ?side2 ?side3 ?side4 A3.out).mono ?_); (case side1 => repeat (first | exact (Kd.C_below HR0_1.out HB.out) | (with_reducible refine Kd.C_alloc ?_ _) | (with_reducible refine Kd.C_drewN ?_ _) | (with_reducible refine Kd.C_drew ?_))); (case side2 => exact HC0_1.out); (case side3 => repeat (first | exact (Kd.C_below HR0_2.out HB.out) | (with_reducible refine Kd.C_alloc ?_ _) | (with_reducible refine Kd.C_drewN ?_ _) | (with_reducible refine Kd.C_drew ?_))); (case side4 => exact HC0_2.out); rintro e w8 ⟨rfl, hb⟩; refine ⟨_, rfl, ?_⟩; have n0_ := Aside0.mk (blk_below (g := gb101) (o := .cells #[.string a0_0, .slice A0_1 l0_1.length c0_1, .slice A0_2 l0_2.length c0_2] 27 (0, 0)) (by (with_reducible repeat (first | refine blk_drewN ?_ _ | refine blk_drew ?_ | refine blk_alloc ?_ _)); exact BK101.out) hb); have n1_ := Aside0.mk (below_step (by repeat (first | (with_reducible first | exact HB.out | apply below_alloc | apply pw_below_drewN | apply below_drew1 | refine below_set ?_ GE101.out) | exact HB.out)) hb); clear BK101; clear HB; have BK101 := n0_; have HB := n1_; clear n0_ n1_; (try clear hb); (try clear hb2); (try clear hk); (try clear hi)))
  go_loopg [4] k (fun kq v4 w' => ∃ (x4_1 : Int), v4 = .int .i64 x4_1 ∧ Aside0 (lambrequinlaw13_PlanGreedy.l0 kq t102 x4_1 a0_0 l0_1 l0_2 = some r) ∧ Aside0 (kq ≤ k) ∧ Aside0 (w'.heap[gb101]? = some (.cells #[.string a0_0, (.slice A0_1 l0_1.length c0_1), (.slice A0_2 l0_2.length c0_2)] 27 (0, 0))) ∧ Aside0 (Below w.heap.size w w'))
  case atStart => exact ⟨(0), (by first | rfl | (simp; done) | (simp [*]; done)), H', ⟨Nat.le_refl _⟩, ⟨by (with_reducible repeat (first | refine blk_drewN ?_ _ | refine blk_drew ?_ | refine blk_alloc ?_ _)); exact BK101.out⟩, ⟨by repeat (first | (with_reducible first | exact HB.out | apply below_alloc | apply pw_below_drewN | apply below_drew1 | refine below_set ?_ GE101.out) | exact HB.out)⟩⟩
  case round =>
   clear H'
   try clear c1
   try clear p2
   try clear c4
   try clear c7
   try clear hcz7_0
   try clear hcz7_1
   try clear hcz7_2
   try clear hfz7_0
   try clear hfz7_1
   try clear hfz7_2
   obtain ⟨x4_1, rfl, HA, HK1, BK101, HB⟩ := hrel
   cases gk with
   | zero => exact absurd HA.out (by simp [lambrequinlaw13_PlanGreedy.l0])
   | succ k1 =>
    have H := HA.out
    clear HA
    simp only [lambrequinlaw13_PlanGreedy.l0] at H
    by_cases c9 : x4_1 < (l0_2.length : Int)
    ·rw [if_pos c9] at H
     have c9b0 : decide (x4_1 < (l0_2.length : Int)) = true := decide_eq_true c9
     clear c9
     by_cases c10 : 0 ≤ x4_1
     ·rw [if_pos c10] at H
      have c10b0 : decide (0 ≤ x4_1) = true := decide_eq_true c10
      clear c10
      by_cases c11 : ((rd_T47 l0_2 x4_1).kind) = 1
      ·rw [if_pos c11] at H
       have c11b0 : (((rd_T47 l0_2 x4_1).kind) == 1) = true := beq_iff_eq.mpr c11
       have c11b1 : (((rd_T47 l0_2 x4_1).kind) != 1) = false := bne_eq_false_iff_eq.mpr c11
       clear c11
       have H' := Aside0.mk H
       clear H
       have hcz12_0 : wr.cell? ⟨gb101, 0, none⟩ = some (.string a0_0) := (blk_cell BK101.out 0).trans rfl
       have hcz12_1 : wr.cell? ⟨gb101, 1, none⟩ = some (.slice A0_1 l0_1.length c0_1) := (blk_cell BK101.out 1).trans rfl
       have hcz12_2 : wr.cell? ⟨gb101, 2, none⟩ = some (.slice A0_2 l0_2.length c0_2) := (blk_cell BK101.out 2).trans rfl
       have hfz12_0 := blk_frozen BK101.out 0
       have hfz12_1 := blk_frozen BK101.out 1
       have hfz12_2 := blk_frozen BK101.out 2
       have p104 : 0 ≤ (x4_1 : Int) := of_decide_eq_true (by first | (with_reducible assumption) | assumption)
       have q104 : x4_1 < (l0_2.length : Int) := of_decide_eq_true (by first | (with_reducible assumption) | assumption)
       obtain ⟨ad104, A104_2, c104_2, e104, hx104_0, hx104_1, hx104_2, hx104_3, hx104_4, hx104_5, hx104_6, hx104_7, hx104_8, hx104_9, hx104_10, hx104_11, hx104_12, hx104_13, hl104_2, hi104_2⟩ := at_T47 HR0_2.out x4_1 p104 q104
       cases e104
       replace hx104_0 := (HB.out.cell (blt_ hx104_0)).trans hx104_0
       replace hx104_1 := (HB.out.cell (blt_ hx104_1)).trans hx104_1
       replace hx104_2 := (HB.out.cell (blt_ hx104_2)).trans hx104_2
       replace hx104_3 := (HB.out.cell (blt_ hx104_3)).trans hx104_3
       replace hx104_4 := (HB.out.cell (blt_ hx104_4)).trans hx104_4
       replace hx104_5 := (HB.out.cell (blt_ hx104_5)).trans hx104_5
       replace hx104_6 := (HB.out.cell (blt_ hx104_6)).trans hx104_6
       replace hx104_7 := (HB.out.cell (blt_ hx104_7)).trans hx104_7
       replace hx104_8 := (HB.out.cell (blt_ hx104_8)).trans hx104_8
       replace hx104_9 := (HB.out.cell (blt_ hx104_9)).trans hx104_9
       replace hx104_10 := (HB.out.cell (blt_ hx104_10)).trans hx104_10
       replace hx104_11 := (HB.out.cell (blt_ hx104_11)).trans hx104_11
       replace hx104_12 := (HB.out.cell (blt_ hx104_12)).trans hx104_12
       replace hx104_13 := (HB.out.cell (blt_ hx104_13)).trans hx104_13
       have HR104_2 := Aside0.mk hi104_2
       have HC104_2 := Aside0.mk hl104_2
       clear hi104_2 hl104_2
       replace p104 := eq_true p104
       replace q104 := eq_true q104
       go_wp2
       go_roundg k1
       case measure => have := HK1.out; omega
       case rel => exact ⟨(wrap64 (x4_1 + 1)), (by first | rfl | (simp; done) | (simp [*]; done)), H', ⟨by have := HK1.out; omega⟩, ⟨by (with_reducible repeat (first | refine blk_drewN ?_ _ | refine blk_drew ?_ | refine blk_alloc ?_ _)); exact BK101.out⟩, ⟨by repeat (first | (with_reducible first | exact HB.out | apply below_alloc | apply pw_below_drewN | apply below_drew1 | refine below_set ?_ GE101.out) | exact HB.out)⟩⟩
      ·rw [if_neg c11] at H
       have c11b0 : (((rd_T47 l0_2 x4_1).kind) == 1) = false := beq_eq_false_iff_ne.mpr c11
       have c11b1 : (((rd_T47 l0_2 x4_1).kind) != 1) = true := bne_iff_ne.mpr c11
       obtain rfl := Option.some.inj H
       have hcz13_0 : wr.cell? ⟨gb101, 0, none⟩ = some (.string a0_0) := (blk_cell BK101.out 0).trans rfl
       have hcz13_1 : wr.cell? ⟨gb101, 1, none⟩ = some (.slice A0_1 l0_1.length c0_1) := (blk_cell BK101.out 1).trans rfl
       have hcz13_2 : wr.cell? ⟨gb101, 2, none⟩ = some (.slice A0_2 l0_2.length c0_2) := (blk_cell BK101.out 2).trans rfl
       have hfz13_0 := blk_frozen BK101.out 0
       have hfz13_1 := blk_frozen BK101.out 1
       have hfz13_2 := blk_frozen BK101.out 2
       have p104 : 0 ≤ (x4_1 : Int) := of_decide_eq_true (by first | (with_reducible assumption) | assumption)
       have q104 : x4_1 < (l0_2.length : Int) := of_decide_eq_true (by first | (with_reducible assumption) | assumption)
       obtain ⟨ad104, A104_2, c104_2, e104, hx104_0, hx104_1, hx104_2, hx104_3, hx104_4, hx104_5, hx104_6, hx104_7, hx104_8, hx104_9, hx104_10, hx104_11, hx104_12, hx104_13, hl104_2, hi104_2⟩ := at_T47 HR0_2.out x4_1 p104 q104
       cases e104
       replace hx104_0 := (HB.out.cell (blt_ hx104_0)).trans hx104_0
       replace hx104_1 := (HB.out.cell (blt_ hx104_1)).trans hx104_1
       replace hx104_2 := (HB.out.cell (blt_ hx104_2)).trans hx104_2
       replace hx104_3 := (HB.out.cell (blt_ hx104_3)).trans hx104_3
       replace hx104_4 := (HB.out.cell (blt_ hx104_4)).trans hx104_4
       replace hx104_5 := (HB.out.cell (blt_ hx104_5)).trans hx104_5
       replace hx104_6 := (HB.out.cell (blt_ hx104_6)).trans hx104_6
       replace hx104_7 := (HB.out.cell (blt_ hx104_7)).trans hx104_7
       replace hx104_8 := (HB.out.cell (blt_ hx104_8)).trans hx104_8
       replace hx104_9 := (HB.out.cell (blt_ hx104_9)).trans hx104_9
       replace hx104_10 := (HB.out.cell (blt_ hx104_10)).trans hx104_10
       replace hx104_11 := (HB.out.cell (blt_ hx104_11)).trans hx104_11
       replace hx104_12 := (HB.out.cell (blt_ hx104_12)).trans hx104_12
       replace hx104_13 := (HB.out.cell (blt_ hx104_13)).trans hx104_13
       have HR104_2 := Aside0.mk hi104_2
       have HC104_2 := Aside0.mk hl104_2
       clear hi104_2 hl104_2
       replace p104 := eq_true p104
       replace q104 := eq_true q104
       go_wp2
       go_ret
       exact ⟨by first | rfl | (simp [errW_none, errW_some] <;> rfl) | (simp [*, errW_none, errW_some] <;> rfl), by repeat (first | (with_reducible first | exact HB.out | apply below_alloc | apply pw_below_drewN | apply below_drew1 | refine below_set ?_ GE101.out) | exact HB.out)⟩
     ·rw [if_neg c10] at H
      exact absurd H (by simp)
    ·rw [if_neg c9] at H
     have c9b0 : decide (x4_1 < (l0_2.length : Int)) = false := decide_eq_false c9
     clear c9
     replace H := Option.bind_eq_some_iff.mp H
     obtain ⟨⟨t105, t108⟩, A140, H⟩ := H
     replace H : (if t108 = 0 then (lambrequinlaw13_PlanGreedy.j1 k1 t102 t105 ((t105.length : Int) != (l0_2.length : Int)) a0_0 l0_1 l0_2) else (lambrequinlaw13_PlanGreedy.j1 k1 t102 t105 true a0_0 l0_1 l0_2)) = some r := H
     have A14 := Aside0.mk A140
     clear A140
     have HC15 := Aside0.mk H
     clear H
     have hcz16_0 : wr.cell? ⟨gb101, 0, none⟩ = some (.string a0_0) := (blk_cell BK101.out 0).trans rfl
     have hcz16_1 : wr.cell? ⟨gb101, 1, none⟩ = some (.slice A0_1 l0_1.length c0_1) := (blk_cell BK101.out 1).trans rfl
     have hcz16_2 : wr.cell? ⟨gb101, 2, none⟩ = some (.slice A0_2 l0_2.length c0_2) := (blk_cell BK101.out 2).trans rfl
     have hfz16_0 := blk_frozen BK101.out 0
     have hfz16_1 := blk_frozen BK101.out 1
     have hfz16_2 := blk_frozen BK101.out 2
     go_upto_region 10 with (first | ((with_reducible refine gate_callee (f := 17) rfl ?_); refine goesL_ (some 34) rfl rfl Try.func17 (by kernel_rfl) rfl #[.agg #[.string a0_0, .slice A0_1 l0_1.length c0_1, .slice A0_2 l0_2.length c0_2], .int .i64 (-1)] rfl (by (try simp only [List.map_toArray, List.map_cons, List.map_nil]); first | done | rfl | (simp only [List.length_drop, List.length_take]; rfl)) ?_; (with_reducible refine (plan_Order.calls a0_0 _ _ l0_1 _ _ l0_2 (-1) t105 t108 _ ?side1 ?side2 ?side3 ?side4 A14.out).mono ?_); (case side1 => repeat (first | exact (Kd.C_below HR0_1.out HB.out) | (with_reducible refine Kd.C_alloc ?_ _) | (with_reducible refine Kd.C_drewN ?_ _) | (with_reducible refine Kd.C_drew ?_))); (case side2 => exact HC0_1.out); (case side3 => repeat (first | exact (Kd.C_below HR0_2.out HB.out) | (with_reducible refine Kd.C_alloc ?_ _) | (with_reducible refine Kd.C_drewN ?_ _) | (with_reducible refine Kd.C_drew ?_))); (case side4 => exact HC0_2.out); rintro e w17 ⟨v106, rfl, ho0, hb⟩; refine ⟨_, rfl, ?_⟩; have n0_ := Aside0.mk (Kd.R_lower ho0 (below_size (by repeat (first | (with_reducible first | exact HB.out | apply below_alloc | apply pw_below_drewN | apply below_drew1 | refine below_set ?_ GE101.out) | exact HB.out)))); have n1_ := Aside0.mk (blk_below (g := gb101) (o := .cells #[.string a0_0, .slice A0_1 l0_1.length c0_1, .slice A0_2 l0_2.length c0_2] 27 (0, 0)) (by (with_reducible repeat (first | refine blk_drewN ?_ _ | refine blk_drew ?_ | refine blk_alloc ?_ _)); exact BK101.out) hb); have n2_ := Aside0.mk (below_step (by repeat (first | (with_reducible first | exact HB.out | apply below_alloc | apply pw_below_drewN | apply below_drew1 | refine below_set ?_ GE101.out) | exact HB.out)) hb); clear BK101; clear HB; have HO107 := n0_; have BK101 := n1_; have HB := n2_; clear n0_ n1_ n2_; (try clear hb); (try clear hb2); (try clear hk); (try clear hi); (try clear ho0)))
     (try simp only [Act.put, List.setIfInBounds_toArray, List.set_cons_zero, List.set_cons_succ])
     go_cut [46] (fun v46 wc => ∃ (kq : Nat) (x46_14 : Bool), v46 = .bool x46_14 ∧ Aside0 (lambrequinlaw13_PlanGreedy.j1 kq t102 t105 x46_14 a0_0 l0_1 l0_2 = some r) ∧ Aside0 (kq ≤ k1) ∧ Aside0 (Kd.R (Kd.int .i64) 3 wc w.heap.size (fun _ => True) v106 t105) ∧ Aside0 (wc.heap[gb101]? = some (.cells #[.string a0_0, (.slice A0_1 l0_1.length c0_1), (.slice A0_2 l0_2.length c0_2)] 27 (0, 0))) ∧ Aside0 (Below w.heap.size w wc))
     case first =>
      have H := HC15.out
      clear HC15
      by_cases c18 : t108 = 0
      ·rw [if_pos c18] at H
       have c18b0 : (t108 == 0) = true := beq_iff_eq.mpr c18
       have c18b1 : (t108 != 0) = false := bne_eq_false_iff_eq.mpr c18
       clear c18
       (first | rw [c18b0] | (simp only [i64_w, i32_w]; rw [c18b0]) | skip)
       have H' := Aside0.mk H
       clear H
       obtain ⟨Ao19, co19, eo19⟩ := Kd.R_slice HO107.out
       subst eo19
       have hcz20_0 : w17.cell? ⟨gb101, 0, none⟩ = some (.string a0_0) := (blk_cell BK101.out 0).trans rfl
       have hcz20_1 : w17.cell? ⟨gb101, 1, none⟩ = some (.slice A0_1 l0_1.length c0_1) := (blk_cell BK101.out 1).trans rfl
       have hcz20_2 : w17.cell? ⟨gb101, 2, none⟩ = some (.slice A0_2 l0_2.length c0_2) := (blk_cell BK101.out 2).trans rfl
       have hfz20_0 := blk_frozen BK101.out 0
       have hfz20_1 := blk_frozen BK101.out 1
       have hfz20_2 := blk_frozen BK101.out 2
       go_wp2
       go_meet
       case rel => exact ⟨_, (((t105.length : Int) != (l0_2.length : Int))), (by first | rfl | (simp; done) | (simp [*]; done)), H', ⟨by have := HK1.out; first | omega | exact Nat.le_refl _⟩, ⟨by (with_reducible repeat (first | apply Kd.R_alloc | apply Kd.R_drewN | apply Kd.R_drew)); exact HO107.out⟩, ⟨by (with_reducible repeat (first | refine blk_drewN ?_ _ | refine blk_drew ?_ | refine blk_alloc ?_ _)); exact BK101.out⟩, ⟨by repeat (first | (with_reducible first | exact HB.out | apply below_alloc | apply pw_below_drewN | apply below_drew1 | refine below_set ?_ GE101.out) | exact HB.out)⟩⟩
      ·rw [if_neg c18] at H
       have c18b0 : (t108 == 0) = false := beq_eq_false_iff_ne.mpr c18
       have c18b1 : (t108 != 0) = true := bne_iff_ne.mpr c18
       (first | rw [c18b0] | (simp only [i64_w, i32_w]; rw [c18b0]) | skip)
       have H' := Aside0.mk H
       clear H
       go_wp2
       go_meet
       case rel => exact ⟨_, (true), (by first | rfl | (simp; done) | (simp [*]; done)), H', ⟨by have := HK1.out; first | omega | exact Nat.le_refl _⟩, ⟨by (with_reducible repeat (first | apply Kd.R_alloc | apply Kd.R_drewN | apply Kd.R_drew)); exact HO107.out⟩, ⟨by (with_reducible repeat (first | refine blk_drewN ?_ _ | refine blk_drew ?_ | refine blk_alloc ?_ _)); exact BK101.out⟩, ⟨by repeat (first | (with_reducible first | exact HB.out | apply below_alloc | apply pw_below_drewN | apply below_drew1 | refine below_set ?_ GE101.out) | exact HB.out)⟩⟩
     case rest =>
      clear HC15
      try clear c1
      try clear p1
      try clear q1
      try clear hx1
      try clear p2
      try clear c4
      try clear p6
      try clear c7
      try clear c9
      try clear c9b0
      try clear c10
      try clear c10b0
      try clear p10
      try clear q10
      try clear hx10
      try clear c11
      try clear c11b0
      try clear c11b1
      try clear c15
      try clear c16
      try clear c17
      try clear c18
      try clear c18b0
      try clear c18b1
      try clear hcz12_0
      try clear hcz12_1
      try clear hcz12_2
      try clear hcz13_0
      try clear hcz13_1
      try clear hcz13_2
      try clear hcz16_0
      try clear hcz16_1
      try clear hcz16_2
      try clear hcz20_0
      try clear hcz20_1
      try clear hcz20_2
      try clear hcz7_0
      try clear hcz7_1
      try clear hcz7_2
      try clear hfz12_0
      try clear hfz12_1
      try clear hfz12_2
      try clear hfz13_0
      try clear hfz13_1
      try clear hfz13_2
      try clear hfz16_0
      try clear hfz16_1
      try clear hfz16_2
      try clear hfz20_0
      try clear hfz20_1
      try clear hfz20_2
      try clear hfz7_0
      try clear hfz7_1
      try clear hfz7_2
      try clear hx104_0
      try clear hx104_1
      try clear hx104_10
      try clear hx104_11
      try clear hx104_12
      try clear hx104_13
      try clear hx104_2
      try clear hx104_3
      try clear hx104_4
      try clear hx104_5
      try clear hx104_6
      try clear hx104_7
      try clear hx104_8
      try clear hx104_9
      try clear p104
      try clear p2
      try clear q104
      obtain ⟨kq, x46_14, rfl, HA, HJ14, HO_5, BK101, HB⟩ := hcut
      cases kq with
      | zero => exact absurd HA.out (by simp [lambrequinlaw13_PlanGreedy.j1])
      | succ kj14 =>
       have H := HA.out
       clear HA
       simp only [lambrequinlaw13_PlanGreedy.j1] at H
       by_cases c21 : x46_14 = true
       ·subst c21
        have H1 : (some false) = some r := by rw [if_pos rfl] at H; exact H
        clear H
        have H := H1
        clear H1
        obtain rfl := Option.some.inj H
        go_wp2
        go_ret
        exact ⟨by first | rfl | (simp [errW_none, errW_some] <;> rfl) | (simp [*, errW_none, errW_some] <;> rfl), by repeat (first | (with_reducible first | exact HB.out | apply below_alloc | apply pw_below_drewN | apply below_drew1 | refine below_set ?_ GE101.out) | exact HB.out)⟩
       ·replace c21 := Bool.eq_false_iff.mpr c21
        subst c21
        have H1 : (lambrequinlaw13_PlanGreedy.l1 kj14 t102 t105 ([] : List ByteArray) 0 a0_0 l0_1 l0_2) = some r := by rw [if_neg (show ¬ (false = true) by decide)] at H; exact H
        clear H
        have H := H1
        clear H1
        have H' := Aside0.mk H
        clear H
        go_wp2
        go_loopg [7, 8] kj14 (fun kq v7 v8 w' => ∃ (x7_3 : List ByteArray) (x8_3 : Int), v8 = .int .i64 x8_3 ∧ Aside0 (lambrequinlaw13_PlanGreedy.l1 kq t102 t105 x7_3 x8_3 a0_0 l0_1 l0_2 = some r) ∧ Aside0 (kq ≤ kj14) ∧ Aside0 (Kd.R (Kd.int .i64) 3 w' w.heap.size (fun _ => True) v106 t105) ∧ Aside0 (Kd.R Kd.string 9 w' w.heap.size (fun _ => True) v7 x7_3) ∧ Aside0 (w'.heap[gb101]? = some (.cells #[.string a0_0, (.slice A0_1 l0_1.length c0_1), (.slice A0_2 l0_2.length c0_2)] 27 (0, 0))) ∧ Aside0 (Below w.heap.size w w'))
        case atStart => exact ⟨(([] : List ByteArray)), (0), (by first | rfl | (simp; done) | (simp [*]; done)), H', ⟨Nat.le_refl _⟩, ⟨by (with_reducible repeat (first | apply Kd.R_alloc | apply Kd.R_drewN | apply Kd.R_drew)); exact HO_5.out⟩, ⟨by first | exact Kd.R_nil _ _ _ _ _ | exact Kd.N_nil _ _ _ _ _ | exact Kd.V_nil _ _ _ _ _ | exact Kd.Q_nil _ _ _ _ _ | exact Kd.S_nil _ _ _ _ _⟩, ⟨by (with_reducible repeat (first | refine blk_drewN ?_ _ | refine blk_drew ?_ | refine blk_alloc ?_ _)); exact BK101.out⟩, ⟨by repeat (first | (with_reducible first | exact HB.out | apply below_alloc | apply pw_below_drewN | apply below_drew1 | refine below_set ?_ GE101.out) | exact HB.out)⟩⟩
        case round =>
         clear H'
         try clear c1
         try clear p1
         try clear q1
         try clear hx1
         try clear c2
         try clear p2
         try clear c4
         try clear p6
         try clear c7
         try clear c9
         try clear c9b0
         try clear c10
         try clear c10b0
         try clear p10
         try clear q10
         try clear hx10
         try clear c11
         try clear c11b0
         try clear c11b1
         try clear c15
         try clear c16
         try clear c17
         try clear c18
         try clear c18b0
         try clear c18b1
         try clear c21
         try clear hcz12_0
         try clear hcz12_1
         try clear hcz12_2
         try clear hcz13_0
         try clear hcz13_1
         try clear hcz13_2
         try clear hcz16_0
         try clear hcz16_1
         try clear hcz16_2
         try clear hcz20_0
         try clear hcz20_1
         try clear hcz20_2
         try clear hcz7_0
         try clear hcz7_1
         try clear hcz7_2
         try clear hfz12_0
         try clear hfz12_1
         try clear hfz12_2
         try clear hfz13_0
         try clear hfz13_1
         try clear hfz13_2
         try clear hfz16_0
         try clear hfz16_1
         try clear hfz16_2
         try clear hfz20_0
         try clear hfz20_1
         try clear hfz20_2
         try clear hfz7_0
         try clear hfz7_1
         try clear hfz7_2
         try clear hx104_0
         try clear hx104_1
         try clear hx104_10
         try clear hx104_11
         try clear hx104_12
         try clear hx104_13
         try clear hx104_2
         try clear hx104_3
         try clear hx104_4
         try clear hx104_5
         try clear hx104_6
         try clear hx104_7
         try clear hx104_8
         try clear hx104_9
         try clear p1
         try clear p10
         try clear p104
         try clear p2
         try clear p6
         try clear q1
         try clear q10
         try clear q104
         obtain ⟨x7_3, x8_3, rfl, HA, HK3, HO_5, HO_7, BK101, HB⟩ := hrel
         cases gk with
         | zero => exact absurd HA.out (by simp [lambrequinlaw13_PlanGreedy.l1])
         | succ k3 =>
          have H := HA.out
          clear HA
          simp only [lambrequinlaw13_PlanGreedy.l1] at H
          by_cases c22 : x8_3 < (t105.length : Int)
          ·rw [if_pos c22] at H
           have c22b0 : decide (x8_3 < (t105.length : Int)) = true := decide_eq_true c22
           clear c22
           have HC23 := Aside0.mk H
           clear H
           obtain ⟨Ao24, co24, eo24⟩ := Kd.R_slice HO_5.out
           subst eo24
           go_upto_region 16 with (fail)
           go_cut [67] (fun v67 wc => ∃ (kq : Nat) (x67_22 : Bool), v67 = .bool x67_22 ∧ Aside0 (lambrequinlaw13_PlanGreedy.j3 kq t102 t105 x7_3 x8_3 x67_22 a0_0 l0_1 l0_2 = some r) ∧ Aside0 (kq ≤ k3) ∧ Aside0 (Kd.R (Kd.int .i64) 3 wc w.heap.size (fun _ => True) (.slice Ao24 t105.length co24) t105) ∧ Aside0 (Kd.R Kd.string 9 wc w.heap.size (fun _ => True) u7 x7_3) ∧ Aside0 (wc.heap[gb101]? = some (.cells #[.string a0_0, (.slice A0_1 l0_1.length c0_1), (.slice A0_2 l0_2.length c0_2)] 27 (0, 0))) ∧ Aside0 (Below w.heap.size w wc))
           case first =>
            have H := HC23.out
            clear HC23
            by_cases c25 : 0 ≤ x8_3
            ·rw [if_pos c25] at H
             have c25b0 : decide (0 ≤ x8_3) = true := decide_eq_true c25
             clear c25
             (first | rw [c25b0] | (simp only [i64_w, i32_w]; rw [c25b0]) | skip)
             by_cases c26 : (rd t105 x8_3) < 0
             ·rw [if_pos c26] at H
              have c26b0 : decide ((rd t105 x8_3) < 0) = true := decide_eq_true c26
              clear c26
              have H' := Aside0.mk H
              clear H
              try go_wp2
              have n0_ := Aside0.mk (Kd.R_drew HO_5.out)
              have n1_ := Aside0.mk (Kd.R_drew HO_7.out)
              have n2_ := Aside0.mk (blk_drew BK101.out)
              have n3_ := Aside0.mk (below_drew1 HB.out)
              clear HO_5
              clear HO_7
              clear BK101
              clear HB
              have HO_5 := n0_
              have HO_7 := n1_
              have BK101 := n2_
              have HB := n3_
              clear n0_ n1_ n2_ n3_
              have p109 : 0 ≤ (x8_3 : Int) := of_decide_eq_true (by first | (with_reducible assumption) | assumption)
              have q109 : x8_3 < (t105.length : Int) := of_decide_eq_true (by first | (with_reducible assumption) | assumption)
              obtain ⟨ad109, e109, hx109_0⟩ := Kd.at_int (Kd.R_reads' HO_5.out).2.2 x8_3 p109 q109
              cases e109
              replace p109 := eq_true p109
              replace q109 := eq_true q109
              refine start_ (n := 15) (S := fun w' => w'.cell? (ad109.add (x8_3).toNat) = some (.int .i64 (rd t105 x8_3))) (ds := []) #[false, false, false, false, false, false, false, false, false, false, false, false, false, false, false] (by kernel_rfl) rfl rfl (hx109_0) (fun hHeld => ?_); refine with_tabW lambrequinlaw13_PlanGreedy.tab16 lambrequinlaw13_PlanGreedy.bits16 (fun HT_ HW_ => ?_)
              generalize wr.drew = w27 at HO_5 HO_7 BK101 HB hx109_0 hHeld ⊢
              refine pure_ (i := 0) (N := some 53) (v := ?_) (a' := ?_) #[true, false, false, false, false, false, false, false, false, false, false, false, false, false, false] rfl rfl (any_of HT_.out (by kernel_rfl)) (fun _ _ _ h => h) (Or.inl ⟨by rfl, ?_⟩) ?_ ?_
              rotate_left
              ·intro w'
               go_simp
               with_reducible rfl
              rotate_left
              ·simp only [Act.put, List.setIfInBounds_toArray, List.set_cons_zero, List.set_cons_succ, i64_w, i32_w]
               rfl
              refine pure_ (i := 1) (N := some 54) (v := ?_) (a' := ?_) #[true, true, false, false, false, false, false, false, false, false, false, false, false, false, false] rfl rfl (any_of HT_.out (by kernel_rfl)) (fun _ _ _ h => h) (Or.inl ⟨by rfl, ?_⟩) ?_ ?_
              rotate_left
              ·intro w'
               go_simp
               with_reducible rfl
              rotate_left
              ·simp only [Act.put, List.setIfInBounds_toArray, List.set_cons_zero, List.set_cons_succ, i64_w, i32_w]
               rfl
              refine pure_ (i := 2) (N := some 55) (v := ?_) (a' := ?_) #[true, true, true, false, false, false, false, false, false, false, false, false, false, false, false] rfl rfl (any_of HT_.out (by kernel_rfl)) (fun _ _ _ h => h) (Or.inl ⟨by rfl, ?_⟩) ?_ ?_
              rotate_left
              ·intro w'
               go_simp
               with_reducible rfl
              rotate_left
              ·simp only [Act.put, List.setIfInBounds_toArray, List.set_cons_zero, List.set_cons_succ, i64_w, i32_w]
               rfl
              refine take_ (i := 3) (N := some 56) (v := ?_) (a' := ?_) #[true, true, true, true, false, false, false, false, false, false, false, false, false, false, false] rfl rfl (take_ofW HT_.out HW_.out (by kernel_rfl)) (fun _ _ _ h => h) (Or.inl ⟨by rfl, ?_⟩) hHeld ?_ ?_
              rotate_left
              ·intro w' s0
               go_simp
               with_reducible rfl
              rotate_left
              ·simp only [Act.put, List.setIfInBounds_toArray, List.set_cons_zero, List.set_cons_succ, i64_w, i32_w]
               rfl
              refine pure_ (i := 4) (N := some 57) (v := ?_) (a' := ?_) #[true, true, true, true, true, false, false, false, false, false, false, false, false, false, false] rfl rfl (any_of HT_.out (by kernel_rfl)) (fun _ _ _ h => h) (Or.inl ⟨by rfl, ?_⟩) ?_ ?_
              rotate_left
              ·intro w'
               go_simp
               with_reducible rfl
              rotate_left
              ·simp only [Act.put, List.setIfInBounds_toArray, List.set_cons_zero, List.set_cons_succ, i64_w, i32_w]
               rfl
              refine pure_ (i := 5) (N := some 58) (v := ?_) (a' := ?_) #[true, true, true, true, true, true, false, false, false, false, false, false, false, false, false] rfl rfl (any_of HT_.out (by kernel_rfl)) (fun _ _ _ h => h) (Or.inl ⟨by rfl, ?_⟩) ?_ ?_
              rotate_left
              ·intro w'
               go_simp
               with_reducible rfl
              rotate_left
              ·simp only [Act.put, List.setIfInBounds_toArray, List.set_cons_zero, List.set_cons_succ, i64_w, i32_w]
               rfl
              refine pure_ (i := 6) (N := some 59) (v := undef) (a' := ?_) #[true, true, true, true, true, true, true, false, false, false, false, false, false, false, false] rfl rfl (any_of HT_.out (by kernel_rfl)) (fun _ _ _ h => h) (Or.inr ⟨by rfl, rfl⟩) ?_ ?_
              rotate_left
              ·simp only [Act.put, List.setIfInBounds_toArray, List.set_cons_zero, List.set_cons_succ, i64_w, i32_w]
               rfl
              refine pure_ (i := 7) (N := some 60) (v := undef) (a' := ?_) #[true, true, true, true, true, true, true, true, false, false, false, false, false, false, false] rfl rfl (any_of HT_.out (by kernel_rfl)) (fun _ _ _ h => h) (Or.inr ⟨by rfl, rfl⟩) ?_ ?_
              rotate_left
              ·simp only [Act.put, List.setIfInBounds_toArray, List.set_cons_zero, List.set_cons_succ, i64_w, i32_w]
               rfl
              refine pure_ (i := 8) (N := some 61) (v := undef) (a' := ?_) #[true, true, true, true, true, true, true, true, true, false, false, false, false, false, false] rfl rfl (any_of HT_.out (by kernel_rfl)) (fun _ _ _ h => h) (Or.inr ⟨by rfl, rfl⟩) ?_ ?_
              rotate_left
              ·simp only [Act.put, List.setIfInBounds_toArray, List.set_cons_zero, List.set_cons_succ, i64_w, i32_w]
               rfl
              refine pure_ (i := 9) (N := some 62) (v := undef) (a' := ?_) #[true, true, true, true, true, true, true, true, true, true, false, false, false, false, false] rfl rfl (any_of HT_.out (by kernel_rfl)) (fun _ _ _ h => h) (Or.inr ⟨by rfl, rfl⟩) ?_ ?_
              rotate_left
              ·simp only [Act.put, List.setIfInBounds_toArray, List.set_cons_zero, List.set_cons_succ, i64_w, i32_w]
               rfl
              refine pure_ (i := 10) (N := some 63) (v := undef) (a' := ?_) #[true, true, true, true, true, true, true, true, true, true, true, false, false, false, false] rfl rfl (any_of HT_.out (by kernel_rfl)) (fun _ _ _ h => h) (Or.inr ⟨by rfl, rfl⟩) ?_ ?_
              rotate_left
              ·simp only [Act.put, List.setIfInBounds_toArray, List.set_cons_zero, List.set_cons_succ, i64_w, i32_w]
               rfl
              refine pure_ (i := 11) (N := some 64) (v := undef) (a' := ?_) #[true, true, true, true, true, true, true, true, true, true, true, true, false, false, false] rfl rfl (any_of HT_.out (by kernel_rfl)) (fun _ _ _ h => h) (Or.inr ⟨by rfl, rfl⟩) ?_ ?_
              rotate_left
              ·simp only [Act.put, List.setIfInBounds_toArray, List.set_cons_zero, List.set_cons_succ, i64_w, i32_w]
               rfl
              refine pure_ (i := 12) (N := some 65) (v := undef) (a' := ?_) #[true, true, true, true, true, true, true, true, true, true, true, true, true, false, false] rfl rfl (any_of HT_.out (by kernel_rfl)) (fun _ _ _ h => h) (Or.inr ⟨by rfl, rfl⟩) ?_ ?_
              rotate_left
              ·simp only [Act.put, List.setIfInBounds_toArray, List.set_cons_zero, List.set_cons_succ, i64_w, i32_w]
               rfl
              refine pure_ (i := 13) (N := some 66) (v := undef) (a' := ?_) #[true, true, true, true, true, true, true, true, true, true, true, true, true, true, false] rfl rfl (any_of HT_.out (by kernel_rfl)) (fun _ _ _ h => h) (Or.inr ⟨by rfl, rfl⟩) ?_ ?_
              rotate_left
              ·simp only [Act.put, List.setIfInBounds_toArray, List.set_cons_zero, List.set_cons_succ, i64_w, i32_w]
               rfl
              refine pure_ (i := 14) (N := some 67) (v := ?_) (a' := ?_) #[true, true, true, true, true, true, true, true, true, true, true, true, true, true, true] rfl rfl (any_of HT_.out (by kernel_rfl)) (fun _ _ _ h => h) (Or.inl ⟨by rfl, ?_⟩) ?_ ?_
              rotate_left
              ·intro w'
               go_simp
               with_reducible rfl
              rotate_left
              ·simp only [Act.put, List.setIfInBounds_toArray, List.set_cons_zero, List.set_cons_succ, i64_w, i32_w]
               rfl
              refine done_ (done_of HT_.out (by kernel_rfl)) ?_
              try go_wp2
              go_meet
              case rel => exact ⟨_, (true), (by first | rfl | (simp; done) | (simp [*]; done)), H', ⟨by have := HK1.out; have := HJ14.out; have := HK3.out; first | omega | exact Nat.le_refl _⟩, ⟨by (with_reducible repeat (first | apply Kd.R_alloc | apply Kd.R_drewN | apply Kd.R_drew)); exact HO_5.out⟩, ⟨by (with_reducible repeat (first | apply Kd.R_alloc | apply Kd.R_drewN | apply Kd.R_drew)); exact HO_7.out⟩, ⟨by (with_reducible repeat (first | refine blk_drewN ?_ _ | refine blk_drew ?_ | refine blk_alloc ?_ _)); exact BK101.out⟩, ⟨by repeat (first | (with_reducible first | exact HB.out | apply below_alloc | apply pw_below_drewN | apply below_drew1 | refine below_set ?_ GE101.out) | exact HB.out)⟩⟩
             ·rw [if_neg c26] at H
              have c26b0 : decide ((rd t105 x8_3) < 0) = false := decide_eq_false c26
              clear c26
              have H' := Aside0.mk H
              clear H
              try go_wp2
              have n0_ := Aside0.mk (Kd.R_drew HO_5.out)
              have n1_ := Aside0.mk (Kd.R_drew HO_7.out)
              have n2_ := Aside0.mk (blk_drew BK101.out)
              have n3_ := Aside0.mk (below_drew1 HB.out)
              clear HO_5
              clear HO_7
              clear BK101
              clear HB
              have HO_5 := n0_
              have HO_7 := n1_
              have BK101 := n2_
              have HB := n3_
              clear n0_ n1_ n2_ n3_
              have p109 : 0 ≤ (x8_3 : Int) := of_decide_eq_true (by first | (with_reducible assumption) | assumption)
              have q109 : x8_3 < (t105.length : Int) := of_decide_eq_true (by first | (with_reducible assumption) | assumption)
              obtain ⟨ad109, e109, hx109_0⟩ := Kd.at_int (Kd.R_reads' HO_5.out).2.2 x8_3 p109 q109
              cases e109
              replace p109 := eq_true p109
              replace q109 := eq_true q109
              have p110 : 0 ≤ (x8_3 : Int) := of_decide_eq_true (by first | (with_reducible assumption) | assumption)
              have q110 : x8_3 < (t105.length : Int) := of_decide_eq_true (by first | (with_reducible assumption) | assumption)
              obtain ⟨ad110, e110, hx110_0⟩ := Kd.at_int (Kd.R_reads' HO_5.out).2.2 x8_3 p110 q110
              obtain rfl : ad109 = ad110 := (by injection e110)
              replace p110 := eq_true p110
              replace q110 := eq_true q110
              refine start_ (n := 15) (S := fun w' => w'.cell? ⟨gb101, 0, none⟩ = some (.string a0_0) ∧ w'.cell? ⟨gb101, 1, none⟩ = some (.slice A0_1 l0_1.length c0_1) ∧ w'.cell? ⟨gb101, 2, none⟩ = some (.slice A0_2 l0_2.length c0_2) ∧ w'.cell? (ad109.add (x8_3).toNat) = some (.int .i64 (rd t105 x8_3)) ∧ w'.cell? (ad109.add (x8_3).toNat) = some (.int .i64 (rd t105 x8_3))) (ds := []) #[false, false, false, false, false, false, false, false, false, false, false, false, false, false, false] (by kernel_rfl) rfl rfl ⟨(blk_cell BK101.out 0).trans rfl, (blk_cell BK101.out 1).trans rfl, (blk_cell BK101.out 2).trans rfl, hx109_0, hx110_0⟩ (fun hHeld => ?_); refine with_tabW lambrequinlaw13_PlanGreedy.tab16 lambrequinlaw13_PlanGreedy.bits16 (fun HT_ HW_ => ?_)
              generalize wr.drew = w28 at HO_5 HO_7 BK101 HB hx109_0 hx110_0 hHeld ⊢
              refine pure_ (i := 0) (N := some 53) (v := ?_) (a' := ?_) #[true, false, false, false, false, false, false, false, false, false, false, false, false, false, false] rfl rfl (any_of HT_.out (by kernel_rfl)) (fun _ _ _ h => h) (Or.inl ⟨by rfl, ?_⟩) ?_ ?_
              rotate_left
              ·intro w'
               go_simp
               with_reducible rfl
              rotate_left
              ·simp only [Act.put, List.setIfInBounds_toArray, List.set_cons_zero, List.set_cons_succ, i64_w, i32_w]
               rfl
              refine pure_ (i := 1) (N := some 54) (v := ?_) (a' := ?_) #[true, true, false, false, false, false, false, false, false, false, false, false, false, false, false] rfl rfl (any_of HT_.out (by kernel_rfl)) (fun _ _ _ h => h) (Or.inl ⟨by rfl, ?_⟩) ?_ ?_
              rotate_left
              ·intro w'
               go_simp
               with_reducible rfl
              rotate_left
              ·simp only [Act.put, List.setIfInBounds_toArray, List.set_cons_zero, List.set_cons_succ, i64_w, i32_w]
               rfl
              refine pure_ (i := 2) (N := some 55) (v := ?_) (a' := ?_) #[true, true, true, false, false, false, false, false, false, false, false, false, false, false, false] rfl rfl (any_of HT_.out (by kernel_rfl)) (fun _ _ _ h => h) (Or.inl ⟨by rfl, ?_⟩) ?_ ?_
              rotate_left
              ·intro w'
               go_simp
               with_reducible rfl
              rotate_left
              ·simp only [Act.put, List.setIfInBounds_toArray, List.set_cons_zero, List.set_cons_succ, i64_w, i32_w]
               rfl
              refine take_ (i := 3) (N := some 56) (v := ?_) (a' := ?_) #[true, true, true, true, false, false, false, false, false, false, false, false, false, false, false] rfl rfl (take_ofW HT_.out HW_.out (by kernel_rfl)) (fun _ _ _ h => h) (Or.inl ⟨by rfl, ?_⟩) hHeld ?_ ?_
              rotate_left
              ·rintro w' ⟨s0, s1, s2, s3, s4⟩
               go_simp
               with_reducible rfl
              rotate_left
              ·simp only [Act.put, List.setIfInBounds_toArray, List.set_cons_zero, List.set_cons_succ, i64_w, i32_w]
               rfl
              refine pure_ (i := 4) (N := some 57) (v := ?_) (a' := ?_) #[true, true, true, true, true, false, false, false, false, false, false, false, false, false, false] rfl rfl (any_of HT_.out (by kernel_rfl)) (fun _ _ _ h => h) (Or.inl ⟨by rfl, ?_⟩) ?_ ?_
              rotate_left
              ·intro w'
               go_simp
               with_reducible rfl
              rotate_left
              ·simp only [Act.put, List.setIfInBounds_toArray, List.set_cons_zero, List.set_cons_succ, i64_w, i32_w]
               rfl
              refine pure_ (i := 5) (N := some 58) (v := ?_) (a' := ?_) #[true, true, true, true, true, true, false, false, false, false, false, false, false, false, false] rfl rfl (any_of HT_.out (by kernel_rfl)) (fun _ _ _ h => h) (Or.inl ⟨by rfl, ?_⟩) ?_ ?_
              rotate_left
              ·intro w'
               go_simp
               with_reducible rfl
              rotate_left
              ·simp only [Act.put, List.setIfInBounds_toArray, List.set_cons_zero, List.set_cons_succ, i64_w, i32_w]
               rfl
              refine pure_ (i := 6) (N := some 59) (v := ?_) (a' := ?_) #[true, true, true, true, true, true, true, false, false, false, false, false, false, false, false] rfl rfl (any_of HT_.out (by kernel_rfl)) (fun _ _ _ h => h) (Or.inl ⟨by rfl, ?_⟩) ?_ ?_
              rotate_left
              ·intro w'
               go_simp
               with_reducible rfl
              rotate_left
              ·simp only [Act.put, List.setIfInBounds_toArray, List.set_cons_zero, List.set_cons_succ, i64_w, i32_w]
               rfl
              refine pure_ (i := 7) (N := some 60) (v := ?_) (a' := ?_) #[true, true, true, true, true, true, true, true, false, false, false, false, false, false, false] rfl rfl (any_of HT_.out (by kernel_rfl)) (fun _ _ _ h => h) (Or.inl ⟨by rfl, ?_⟩) ?_ ?_
              rotate_left
              ·intro w'
               go_simp
               with_reducible rfl
              rotate_left
              ·simp only [Act.put, List.setIfInBounds_toArray, List.set_cons_zero, List.set_cons_succ, i64_w, i32_w]
               rfl
              refine pure_ (i := 8) (N := some 61) (v := ?_) (a' := ?_) #[true, true, true, true, true, true, true, true, true, false, false, false, false, false, false] rfl rfl (any_of HT_.out (by kernel_rfl)) (fun _ _ _ h => h) (Or.inl ⟨by rfl, ?_⟩) ?_ ?_
              rotate_left
              ·intro w'
               go_simp
               with_reducible rfl
              rotate_left
              ·simp only [Act.put, List.setIfInBounds_toArray, List.set_cons_zero, List.set_cons_succ, i64_w, i32_w]
               rfl
              refine pure_ (i := 10) (N := some 63) (v := ?_) (a' := ?_) #[true, true, true, true, true, true, true, true, true, false, true, false, false, false, false] rfl rfl (any_of HT_.out (by kernel_rfl)) (fun _ _ _ h => h) (Or.inl ⟨by rfl, ?_⟩) ?_ ?_
              rotate_left
              ·intro w'
               go_simp
               with_reducible rfl
              rotate_left
              ·simp only [Act.put, List.setIfInBounds_toArray, List.set_cons_zero, List.set_cons_succ, i64_w, i32_w]
               rfl
              refine take_ (i := 9) (N := some 62) (v := ?_) (a' := ?_) #[true, true, true, true, true, true, true, true, true, true, true, false, false, false, false] rfl rfl (take_ofW HT_.out HW_.out (by kernel_rfl)) (fun _ _ _ h => h) (Or.inl ⟨by rfl, ?_⟩) hHeld ?_ ?_
              rotate_left
              ·rintro w' ⟨s0, s1, s2, s3, s4⟩
               go_simp
               with_reducible rfl
              rotate_left
              ·simp only [Act.put, List.setIfInBounds_toArray, List.set_cons_zero, List.set_cons_succ, i64_w, i32_w]
               rfl
              refine take_ (i := 11) (N := some 64) (v := ?_) (a' := ?_) #[true, true, true, true, true, true, true, true, true, true, true, true, false, false, false] rfl rfl (take_ofW HT_.out HW_.out (by kernel_rfl)) (fun _ _ _ h => h) (Or.inl ⟨by rfl, ?_⟩) hHeld ?_ ?_
              rotate_left
              ·rintro w' ⟨s0, s1, s2, s3, s4⟩
               go_simp
               with_reducible rfl
              rotate_left
              ·simp only [Act.put, List.setIfInBounds_toArray, List.set_cons_zero, List.set_cons_succ, i64_w, i32_w]
               rfl
              refine pure_ (i := 12) (N := some 65) (v := ?_) (a' := ?_) #[true, true, true, true, true, true, true, true, true, true, true, true, true, false, false] rfl rfl (any_of HT_.out (by kernel_rfl)) (fun _ _ _ h => h) (Or.inl ⟨by rfl, ?_⟩) ?_ ?_
              rotate_left
              ·intro w'
               go_simp
               with_reducible rfl
              rotate_left
              ·simp only [Act.put, List.setIfInBounds_toArray, List.set_cons_zero, List.set_cons_succ, i64_w, i32_w]
               rfl
              refine pure_ (i := 13) (N := some 66) (v := ?_) (a' := ?_) #[true, true, true, true, true, true, true, true, true, true, true, true, true, true, false] rfl rfl (any_of HT_.out (by kernel_rfl)) (fun _ _ _ h => h) (Or.inl ⟨by rfl, ?_⟩) ?_ ?_
              rotate_left
              ·intro w'
               go_simp
               with_reducible rfl
              rotate_left
              ·simp only [Act.put, List.setIfInBounds_toArray, List.set_cons_zero, List.set_cons_succ, i64_w, i32_w]
               rfl
              refine pure_ (i := 14) (N := some 67) (v := ?_) (a' := ?_) #[true, true, true, true, true, true, true, true, true, true, true, true, true, true, true] rfl rfl (any_of HT_.out (by kernel_rfl)) (fun _ _ _ h => h) (Or.inl ⟨by rfl, ?_⟩) ?_ ?_
              rotate_left
              ·intro w'
               go_simp
               with_reducible rfl
              rotate_left
              ·simp only [Act.put, List.setIfInBounds_toArray, List.set_cons_zero, List.set_cons_succ, i64_w, i32_w]
               rfl
              refine done_ (done_of HT_.out (by kernel_rfl)) ?_
              try go_wp2
              go_meet
              case rel => exact ⟨_, (decide ((rd t105 x8_3) ≥ (l0_2.length : Int))), (by first | rfl | (simp; done) | (simp [*]; done)), H', ⟨by have := HK1.out; have := HJ14.out; have := HK3.out; first | omega | exact Nat.le_refl _⟩, ⟨by (with_reducible repeat (first | apply Kd.R_alloc | apply Kd.R_drewN | apply Kd.R_drew)); exact HO_5.out⟩, ⟨by (with_reducible repeat (first | apply Kd.R_alloc | apply Kd.R_drewN | apply Kd.R_drew)); exact HO_7.out⟩, ⟨by (with_reducible repeat (first | refine blk_drewN ?_ _ | refine blk_drew ?_ | refine blk_alloc ?_ _)); exact BK101.out⟩, ⟨by repeat (first | (with_reducible first | exact HB.out | apply below_alloc | apply pw_below_drewN | apply below_drew1 | refine below_set ?_ GE101.out) | exact HB.out)⟩⟩
            ·rw [if_neg c25] at H
             exact absurd H (by simp)
           case rest =>
            clear HC23
            try clear c1
            try clear p1
            try clear q1
            try clear hx1
            try clear c2
            try clear p2
            try clear c4
            try clear p6
            try clear c7
            try clear c9
            try clear c9b0
            try clear c10
            try clear c10b0
            try clear p10
            try clear q10
            try clear hx10
            try clear c11
            try clear c11b0
            try clear c11b1
            try clear p11
            try clear q11
            try clear hx11
            try clear c15
            try clear c16
            try clear c17
            try clear c18
            try clear c18b0
            try clear c18b1
            try clear c21
            try clear c22
            try clear c22b0
            try clear c25
            try clear c25b0
            try clear c26
            try clear c26b0
            try clear hcz12_0
            try clear hcz12_1
            try clear hcz12_2
            try clear hcz13_0
            try clear hcz13_1
            try clear hcz13_2
            try clear hcz16_0
            try clear hcz16_1
            try clear hcz16_2
            try clear hcz20_0
            try clear hcz20_1
            try clear hcz20_2
            try clear hcz7_0
            try clear hcz7_1
            try clear hcz7_2
            try clear hfz12_0
            try clear hfz12_1
            try clear hfz12_2
            try clear hfz13_0
            try clear hfz13_1
            try clear hfz13_2
            try clear hfz16_0
            try clear hfz16_1
            try clear hfz16_2
            try clear hfz20_0
            try clear hfz20_1
            try clear hfz20_2
            try clear hfz7_0
            try clear hfz7_1
            try clear hfz7_2
            try clear hx104_0
            try clear hx104_1
            try clear hx104_10
            try clear hx104_11
            try clear hx104_12
            try clear hx104_13
            try clear hx104_2
            try clear hx104_3
            try clear hx104_4
            try clear hx104_5
            try clear hx104_6
            try clear hx104_7
            try clear hx104_8
            try clear hx104_9
            try clear hx109_0
            try clear hx110_0
            try clear p1
            try clear p10
            try clear p104
            try clear p109
            try clear p110
            try clear p2
            try clear p6
            try clear q1
            try clear q10
            try clear q104
            try clear q109
            try clear q110
            obtain ⟨kq, x67_22, rfl, HA, HJ22, HO_5, HO_7, BK101, HB⟩ := hcut
            cases kq with
            | zero => exact absurd HA.out (by simp [lambrequinlaw13_PlanGreedy.j3])
            | succ kj22 =>
             have H := HA.out
             clear HA
             simp only [lambrequinlaw13_PlanGreedy.j3] at H
             by_cases c29 : x67_22 = true
             ·subst c29
              have H1 : (some false) = some r := by rw [if_pos rfl] at H; exact H
              clear H
              have H := H1
              clear H1
              obtain rfl := Option.some.inj H
              go_wp2
              go_ret
              exact ⟨by first | rfl | (simp [errW_none, errW_some] <;> rfl) | (simp [*, errW_none, errW_some] <;> rfl), by repeat (first | (with_reducible first | exact HB.out | apply below_alloc | apply pw_below_drewN | apply below_drew1 | refine below_set ?_ GE101.out) | exact HB.out)⟩
             ·replace c29 := Bool.eq_false_iff.mpr c29
              subst c29
              have H1 : (if 0 ≤ x8_3 then (if x8_3 < (t105.length : Int) then (if 0 ≤ (rd t105 x8_3) then (if (rd t105 x8_3) < (l0_2.length : Int) then ((plan_Cols.f kj22 ((rd_T47 l0_2 (rd t105 x8_3)).atom.pred) ((rd_T47 l0_2 (rd t105 x8_3)).atom.args) x7_3).bind fun t113 => (lambrequinlaw13_PlanGreedy.l2 kj22 t102 t105 x7_3 x8_3 (t113.length : Int) (wrap64 (x8_3 + 1)) a0_0 l0_1 l0_2)) else (none)) else (none)) else (none)) else (none)) = some r := by rw [if_neg (show ¬ (false = true) by decide)] at H; exact H
              clear H
              have H := H1
              clear H1
              by_cases c30 : 0 ≤ x8_3
              ·rw [if_pos c30] at H
               have c30b0 : decide (0 ≤ x8_3) = true := decide_eq_true c30
               clear c30
               by_cases c31 : x8_3 < (t105.length : Int)
               ·rw [if_pos c31] at H
                have c31b0 : decide (x8_3 < (t105.length : Int)) = true := decide_eq_true c31
                clear c31
                by_cases c32 : 0 ≤ (rd t105 x8_3)
                ·rw [if_pos c32] at H
                 have c32b0 : decide (0 ≤ (rd t105 x8_3)) = true := decide_eq_true c32
                 clear c32
                 by_cases c33 : (rd t105 x8_3) < (l0_2.length : Int)
                 ·rw [if_pos c33] at H
                  have c33b0 : decide ((rd t105 x8_3) < (l0_2.length : Int)) = true := decide_eq_true c33
                  clear c33
                  replace H := Option.bind_eq_some_iff.mp H
                  obtain ⟨t113, A340, H⟩ := H
                  replace H : (lambrequinlaw13_PlanGreedy.l2 kj22 t102 t105 x7_3 x8_3 (t113.length : Int) (wrap64 (x8_3 + 1)) a0_0 l0_1 l0_2) = some r := H
                  have A34 := Aside0.mk A340
                  clear A340
                  have H' := Aside0.mk H
                  clear H
                  try go_wp2
                  have n0_ := Aside0.mk (Kd.R_drew HO_5.out)
                  have n1_ := Aside0.mk (Kd.R_drew HO_7.out)
                  have n2_ := Aside0.mk (blk_drew BK101.out)
                  have n3_ := Aside0.mk (below_drew1 HB.out)
                  clear HO_5
                  clear HO_7
                  clear BK101
                  clear HB
                  have HO_5 := n0_
                  have HO_7 := n1_
                  have BK101 := n2_
                  have HB := n3_
                  clear n0_ n1_ n2_ n3_
                  have p111 : 0 ≤ (x8_3 : Int) := of_decide_eq_true (by first | (with_reducible assumption) | assumption)
                  have q111 : x8_3 < (t105.length : Int) := of_decide_eq_true (by first | (with_reducible assumption) | assumption)
                  obtain ⟨ad111, e111, hx111_0⟩ := Kd.at_int (Kd.R_reads' HO_5.out).2.2 x8_3 p111 q111
                  cases e111
                  replace p111 := eq_true p111
                  replace q111 := eq_true q111
                  have p112 : 0 ≤ ((rd t105 x8_3) : Int) := of_decide_eq_true (by first | (with_reducible assumption) | assumption)
                  have q112 : (rd t105 x8_3) < (l0_2.length : Int) := of_decide_eq_true (by first | (with_reducible assumption) | assumption)
                  obtain ⟨ad112, A112_2, c112_2, e112, hx112_0, hx112_1, hx112_2, hx112_3, hx112_4, hx112_5, hx112_6, hx112_7, hx112_8, hx112_9, hx112_10, hx112_11, hx112_12, hx112_13, hl112_2, hi112_2⟩ := at_T47 HR0_2.out (rd t105 x8_3) p112 q112
                  have hw112_13 := hx112_13
                  have hw112_12 := hx112_12
                  have hw112_11 := hx112_11
                  have hw112_10 := hx112_10
                  have hw112_9 := hx112_9
                  have hw112_8 := hx112_8
                  have hw112_7 := hx112_7
                  have hw112_6 := hx112_6
                  have hw112_5 := hx112_5
                  have hw112_4 := hx112_4
                  have hw112_3 := hx112_3
                  have hw112_2 := hx112_2
                  have hw112_1 := hx112_1
                  have hw112_0 := hx112_0
                  cases e112
                  replace hx112_0 := (HB.out.cell (blt_ hx112_0)).trans hx112_0
                  replace hx112_1 := (HB.out.cell (blt_ hx112_1)).trans hx112_1
                  replace hx112_2 := (HB.out.cell (blt_ hx112_2)).trans hx112_2
                  replace hx112_3 := (HB.out.cell (blt_ hx112_3)).trans hx112_3
                  replace hx112_4 := (HB.out.cell (blt_ hx112_4)).trans hx112_4
                  replace hx112_5 := (HB.out.cell (blt_ hx112_5)).trans hx112_5
                  replace hx112_6 := (HB.out.cell (blt_ hx112_6)).trans hx112_6
                  replace hx112_7 := (HB.out.cell (blt_ hx112_7)).trans hx112_7
                  replace hx112_8 := (HB.out.cell (blt_ hx112_8)).trans hx112_8
                  replace hx112_9 := (HB.out.cell (blt_ hx112_9)).trans hx112_9
                  replace hx112_10 := (HB.out.cell (blt_ hx112_10)).trans hx112_10
                  replace hx112_11 := (HB.out.cell (blt_ hx112_11)).trans hx112_11
                  replace hx112_12 := (HB.out.cell (blt_ hx112_12)).trans hx112_12
                  replace hx112_13 := (HB.out.cell (blt_ hx112_13)).trans hx112_13
                  have HR112_2 := Aside0.mk hi112_2
                  have HC112_2 := Aside0.mk hl112_2
                  clear hi112_2 hl112_2
                  replace p112 := eq_true p112
                  replace q112 := eq_true q112
                  obtain ⟨Ao36, co36, eo36⟩ := Kd.R_slice HO_7.out
                  (first | subst eo36 | (injection eo36 with f1_ f2_ f3_; have f4_ := f1_.symm; have f5_ := f3_.symm; clear f1_ f2_ f3_; subst f4_; subst f5_))
                  refine start_ (n := 13) (S := fun w' => w'.cell? ⟨gb101, 0, none⟩ = some (.string a0_0) ∧ w'.cell? ⟨gb101, 1, none⟩ = some (.slice A0_1 l0_1.length c0_1) ∧ w'.cell? ⟨gb101, 2, none⟩ = some (.slice (some ad112) l0_2.length c0_2) ∧ w'.cell? (ad111.add (x8_3).toNat) = some (.int .i64 (rd t105 x8_3)) ∧ w'.cell? (ad112.add (((rd t105 x8_3)).toNat * 14)) = some (.int .i64 ((rd_T47 l0_2 (rd t105 x8_3)).kind)) ∧ w'.cell? ⟨(ad112.add (((rd t105 x8_3)).toNat * 14)).block, (ad112.add (((rd t105 x8_3)).toNat * 14)).off + 1, none⟩ = some (.string ((rd_T47 l0_2 (rd t105 x8_3)).atom.pred)) ∧ w'.cell? ⟨(ad112.add (((rd t105 x8_3)).toNat * 14)).block, (ad112.add (((rd t105 x8_3)).toNat * 14)).off + 2, none⟩ = some (.slice A112_2 ((rd_T47 l0_2 (rd t105 x8_3)).atom.args).length c112_2) ∧ w'.cell? ⟨(ad112.add (((rd t105 x8_3)).toNat * 14)).block, (ad112.add (((rd t105 x8_3)).toNat * 14)).off + 3, none⟩ = some (.string ((rd_T47 l0_2 (rd t105 x8_3)).op)) ∧ w'.cell? ⟨(ad112.add (((rd t105 x8_3)).toNat * 14)).block, (ad112.add (((rd t105 x8_3)).toNat * 14)).off + 4, none⟩ = some (.bool ((rd_T47 l0_2 (rd t105 x8_3)).l.isVar)) ∧ w'.cell? ⟨(ad112.add (((rd t105 x8_3)).toNat * 14)).block, (ad112.add (((rd t105 x8_3)).toNat * 14)).off + 5, none⟩ = some (.string ((rd_T47 l0_2 (rd t105 x8_3)).l.name)) ∧ w'.cell? ⟨(ad112.add (((rd t105 x8_3)).toNat * 14)).block, (ad112.add (((rd t105 x8_3)).toNat * 14)).off + 6, none⟩ = some (.bool ((rd_T47 l0_2 (rd t105 x8_3)).l.val.isSym)) ∧ w'.cell? ⟨(ad112.add (((rd t105 x8_3)).toNat * 14)).block, (ad112.add (((rd t105 x8_3)).toNat * 14)).off + 7, none⟩ = some (.string ((rd_T47 l0_2 (rd t105 x8_3)).l.val.sym)) ∧ w'.cell? ⟨(ad112.add (((rd t105 x8_3)).toNat * 14)).block, (ad112.add (((rd t105 x8_3)).toNat * 14)).off + 8, none⟩ = some (.int .i64 ((rd_T47 l0_2 (rd t105 x8_3)).l.val.n)) ∧ w'.cell? ⟨(ad112.add (((rd t105 x8_3)).toNat * 14)).block, (ad112.add (((rd t105 x8_3)).toNat * 14)).off + 9, none⟩ = some (.bool ((rd_T47 l0_2 (rd t105 x8_3)).r.isVar)) ∧ w'.cell? ⟨(ad112.add (((rd t105 x8_3)).toNat * 14)).block, (ad112.add (((rd t105 x8_3)).toNat * 14)).off + 10, none⟩ = some (.string ((rd_T47 l0_2 (rd t105 x8_3)).r.name)) ∧ w'.cell? ⟨(ad112.add (((rd t105 x8_3)).toNat * 14)).block, (ad112.add (((rd t105 x8_3)).toNat * 14)).off + 11, none⟩ = some (.bool ((rd_T47 l0_2 (rd t105 x8_3)).r.val.isSym)) ∧ w'.cell? ⟨(ad112.add (((rd t105 x8_3)).toNat * 14)).block, (ad112.add (((rd t105 x8_3)).toNat * 14)).off + 12, none⟩ = some (.string ((rd_T47 l0_2 (rd t105 x8_3)).r.val.sym)) ∧ w'.cell? ⟨(ad112.add (((rd t105 x8_3)).toNat * 14)).block, (ad112.add (((rd t105 x8_3)).toNat * 14)).off + 13, none⟩ = some (.int .i64 ((rd_T47 l0_2 (rd t105 x8_3)).r.val.n))) (ds := []) #[false, false, false, false, false, false, false, false, false, false, false, false, false] (by kernel_rfl) rfl rfl ⟨(blk_cell BK101.out 0).trans rfl, (blk_cell BK101.out 1).trans rfl, (blk_cell BK101.out 2).trans rfl, hx111_0, ((HB.out.cell (blt_ hw112_0)).trans hw112_0), ((HB.out.cell (blt_ hw112_1)).trans hw112_1), ((HB.out.cell (blt_ hw112_2)).trans hw112_2), ((HB.out.cell (blt_ hw112_3)).trans hw112_3), ((HB.out.cell (blt_ hw112_4)).trans hw112_4), ((HB.out.cell (blt_ hw112_5)).trans hw112_5), ((HB.out.cell (blt_ hw112_6)).trans hw112_6), ((HB.out.cell (blt_ hw112_7)).trans hw112_7), ((HB.out.cell (blt_ hw112_8)).trans hw112_8), ((HB.out.cell (blt_ hw112_9)).trans hw112_9), ((HB.out.cell (blt_ hw112_10)).trans hw112_10), ((HB.out.cell (blt_ hw112_11)).trans hw112_11), ((HB.out.cell (blt_ hw112_12)).trans hw112_12), ((HB.out.cell (blt_ hw112_13)).trans hw112_13)⟩ (fun hHeld => ?_); refine with_tabW lambrequinlaw13_PlanGreedy.tab18 lambrequinlaw13_PlanGreedy.bits18 (fun HT_ HW_ => ?_)
                  generalize wc.drew = w35 at HO_5 HO_7 BK101 HB HR112_2 hx111_0 hx112_0 hx112_1 hx112_10 hx112_11 hx112_12 hx112_13 hx112_2 hx112_3 hx112_4 hx112_5 hx112_6 hx112_7 hx112_8 hx112_9 hHeld ⊢
                  refine pure_ (i := 0) (N := some 68) (v := ?_) (a' := ?_) #[true, false, false, false, false, false, false, false, false, false, false, false, false] rfl rfl (any_of HT_.out (by kernel_rfl)) (fun _ _ _ h => h) (Or.inl ⟨by rfl, ?_⟩) ?_ ?_
                  rotate_left
                  ·intro w'
                   go_simp
                   with_reducible rfl
                  rotate_left
                  ·simp only [Act.put, List.setIfInBounds_toArray, List.set_cons_zero, List.set_cons_succ, i64_w, i32_w]
                   rfl
                  refine pure_ (i := 2) (N := some 70) (v := ?_) (a' := ?_) #[true, false, true, false, false, false, false, false, false, false, false, false, false] rfl rfl (any_of HT_.out (by kernel_rfl)) (fun _ _ _ h => h) (Or.inl ⟨by rfl, ?_⟩) ?_ ?_
                  rotate_left
                  ·intro w'
                   go_simp
                   with_reducible rfl
                  rotate_left
                  ·simp only [Act.put, List.setIfInBounds_toArray, List.set_cons_zero, List.set_cons_succ, i64_w, i32_w]
                   rfl
                  refine pure_ (i := 3) (N := some 71) (v := ?_) (a' := ?_) #[true, false, true, true, false, false, false, false, false, false, false, false, false] rfl rfl (any_of HT_.out (by kernel_rfl)) (fun _ _ _ h => h) (Or.inl ⟨by rfl, ?_⟩) ?_ ?_
                  rotate_left
                  ·intro w'
                   go_simp
                   with_reducible rfl
                  rotate_left
                  ·simp only [Act.put, List.setIfInBounds_toArray, List.set_cons_zero, List.set_cons_succ, i64_w, i32_w]
                   rfl
                  refine pure_ (i := 4) (N := some 72) (v := ?_) (a' := ?_) #[true, false, true, true, true, false, false, false, false, false, false, false, false] rfl rfl (any_of HT_.out (by kernel_rfl)) (fun _ _ _ h => h) (Or.inl ⟨by rfl, ?_⟩) ?_ ?_
                  rotate_left
                  ·intro w'
                   go_simp
                   with_reducible rfl
                  rotate_left
                  ·simp only [Act.put, List.setIfInBounds_toArray, List.set_cons_zero, List.set_cons_succ, i64_w, i32_w]
                   rfl
                  refine pure_ (i := 9) (N := some 77) (v := ?_) (a' := ?_) #[true, false, true, true, true, false, false, false, false, true, false, false, false] rfl rfl (any_of HT_.out (by kernel_rfl)) (fun _ _ _ h => h) (Or.inl ⟨by rfl, ?_⟩) ?_ ?_
                  rotate_left
                  ·intro w'
                   go_simp
                   with_reducible rfl
                  rotate_left
                  ·simp only [Act.put, List.setIfInBounds_toArray, List.set_cons_zero, List.set_cons_succ, i64_w, i32_w]
                   rfl
                  refine take_ (i := 1) (N := some 69) (v := ?_) (a' := ?_) #[true, true, true, true, true, false, false, false, false, true, false, false, false] rfl rfl (take_ofW HT_.out HW_.out (by kernel_rfl)) (fun _ _ _ h => h) (Or.inl ⟨by rfl, ?_⟩) hHeld ?_ ?_
                  rotate_left
                  ·rintro w' ⟨s0, s1, s2, s3, s4, s5, s6, s7, s8, s9, s10, s11, s12, s13, s14, s15, s16, s17⟩
                   go_simp
                   with_reducible rfl
                  rotate_left
                  ·simp only [Act.put, List.setIfInBounds_toArray, List.set_cons_zero, List.set_cons_succ, i64_w, i32_w]
                   rfl
                  refine take_ (i := 5) (N := some 73) (v := ?_) (a' := ?_) #[true, true, true, true, true, true, false, false, false, true, false, false, false] rfl rfl (take_ofW HT_.out HW_.out (by kernel_rfl)) (fun _ _ _ h => h) (Or.inl ⟨by rfl, ?_⟩) hHeld ?_ ?_
                  rotate_left
                  ·rintro w' ⟨s0, s1, s2, s3, s4, s5, s6, s7, s8, s9, s10, s11, s12, s13, s14, s15, s16, s17⟩
                   go_simp
                   with_reducible rfl
                  rotate_left
                  ·simp only [Act.put, List.setIfInBounds_toArray, List.set_cons_zero, List.set_cons_succ, i64_w, i32_w]
                   rfl
                  refine pure_ (i := 6) (N := some 74) (v := ?_) (a' := ?_) #[true, true, true, true, true, true, true, false, false, true, false, false, false] rfl rfl (any_of HT_.out (by kernel_rfl)) (fun _ _ _ h => h) (Or.inl ⟨by rfl, ?_⟩) ?_ ?_
                  rotate_left
                  ·intro w'
                   go_simp
                   with_reducible rfl
                  rotate_left
                  ·simp only [Act.put, List.setIfInBounds_toArray, List.set_cons_zero, List.set_cons_succ, i64_w, i32_w]
                   rfl
                  refine pure_ (i := 7) (N := some 75) (v := ?_) (a' := ?_) #[true, true, true, true, true, true, true, true, false, true, false, false, false] rfl rfl (any_of HT_.out (by kernel_rfl)) (fun _ _ _ h => h) (Or.inl ⟨by rfl, ?_⟩) ?_ ?_
                  rotate_left
                  ·intro w'
                   go_simp
                   with_reducible rfl
                  rotate_left
                  ·simp only [Act.put, List.setIfInBounds_toArray, List.set_cons_zero, List.set_cons_succ, i64_w, i32_w]
                   rfl
                  refine take_ (i := 8) (N := some 76) (v := ?_) (a' := ?_) #[true, true, true, true, true, true, true, true, true, true, false, false, false] rfl rfl (take_ofW HT_.out HW_.out (by kernel_rfl)) (fun _ _ _ h => h) (Or.inl ⟨by rfl, ?_⟩) hHeld ?_ ?_
                  rotate_left
                  ·rintro w' ⟨s0, s1, s2, s3, s4, s5, s6, s7, s8, s9, s10, s11, s12, s13, s14, s15, s16, s17⟩
                   go_simp
                   with_reducible rfl
                  rotate_left
                  ·simp only [Act.put, List.setIfInBounds_toArray, List.set_cons_zero, List.set_cons_succ, i64_w, i32_w]
                   rfl
                  refine one_ (i := 10) (N := some 78) #[true, true, true, true, true, true, true, true, true, true, true, false, false] rfl rfl (one_of HT_.out (by kernel_rfl)) (by decide) (fun K hK => ?_)
                  refine goes_ Try.func20 (by kernel_rfl) rfl #[.agg #[.string ((rd_T47 l0_2 (rd t105 x8_3)).atom.pred), .slice A112_2 ((rd_T47 l0_2 (rd t105 x8_3)).atom.args).length c112_2], .slice Ao36 x7_3.length co36] (by rfl) rfl rfl (by (try simp only [List.map_toArray, List.map_cons, List.map_nil]); first | done | rfl | (simp only [List.length_drop, List.length_take]; rfl)) ?_
                  with_reducible refine (plan_Cols.calls kj22 ((rd_T47 l0_2 (rd t105 x8_3)).atom.pred) _ _ ((rd_T47 l0_2 (rd t105 x8_3)).atom.args) _ _ x7_3 t113 _ ?side1 ?side2 ?side3 ?side4 A34.out).mono ?_
                  (case side1 => repeat (first | exact (Kd.C_below HR112_2.out HB.out) | (with_reducible refine Kd.C_alloc ?_ _) | (with_reducible refine Kd.C_drewN ?_ _) | (with_reducible refine Kd.C_drew ?_)))
                  (case side2 => exact HC112_2.out)
                  (case side3 => repeat (first | exact (Kd.R_reads' HO_7.out).2.2 | (with_reducible refine Kd.C_alloc ?_ _) | (with_reducible refine Kd.C_drewN ?_ _) | (with_reducible refine Kd.C_drew ?_)))
                  (case side4 => exact (Kd.R_reads' HO_7.out).2.1)
                  rintro e w37 ⟨v114, rfl, ho0, hb⟩
                  have HS3_ := (hb.cell (blt_ (hHeld.2.2.2.1))).trans (hHeld.2.2.2.1)
                  refine ⟨_, rfl, ?_⟩
                  have n0_ := Aside0.mk (Kd.R_elder' (by (with_reducible repeat (first | apply Kd.R_alloc | apply Kd.R_drewN | apply Kd.R_drew)); exact HO_5.out) (Kd.R_base ho0) hb)
                  have n1_ := Aside0.mk (Kd.R_below (by (with_reducible repeat (first | apply Kd.R_alloc | apply Kd.R_drewN | apply Kd.R_drew)); exact HO_7.out) hb)
                  have n2_ := Aside0.mk (Kd.R_lower (Kd.R_new' ho0 (Kd.R_lt (by (with_reducible repeat (first | apply Kd.R_alloc | apply Kd.R_drewN | apply Kd.R_drew)); exact HO_5.out))) (below_size (by repeat (first | (with_reducible first | exact HB.out | apply below_alloc | apply pw_below_drewN | apply below_drew1 | refine below_set ?_ GE101.out) | exact HB.out))))
                  have n3_ := Aside0.mk (blk_below (g := gb101) (o := .cells #[.string a0_0, .slice A0_1 l0_1.length c0_1, .slice (some ad112) l0_2.length c0_2] 27 (0, 0)) (by (with_reducible repeat (first | refine blk_drewN ?_ _ | refine blk_drew ?_ | refine blk_alloc ?_ _)); exact BK101.out) hb)
                  have n4_ := Aside0.mk (below_step (by repeat (first | (with_reducible first | exact HB.out | apply below_alloc | apply pw_below_drewN | apply below_drew1 | refine below_set ?_ GE101.out) | exact HB.out)) hb)
                  clear HO_5
                  clear HO_7
                  clear BK101
                  clear HB
                  have HO_5 := n0_
                  have HO_7 := n1_
                  have HO115 := n2_
                  have BK101 := n3_
                  have HB := n4_
                  clear n0_ n1_ n2_ n3_ n4_
                  (try clear hb)
                  (try clear hb2)
                  (try clear hk)
                  (try clear hi)
                  (try clear ho0)
                  obtain ⟨Ao38, co38, eo38⟩ := Kd.R_slice HO115.out
                  (first | subst eo38 | (injection eo38 with f1_ f2_ f3_; have f4_ := f1_.symm; have f5_ := f3_.symm; clear f1_ f2_ f3_; subst f4_; subst f5_))
                  refine hK.out _ _ ⟨(blk_cell BK101.out 0).trans rfl, (blk_cell BK101.out 1).trans rfl, (blk_cell BK101.out 2).trans rfl, HS3_, ((HB.out.cell (blt_ hw112_0)).trans hw112_0), ((HB.out.cell (blt_ hw112_1)).trans hw112_1), ((HB.out.cell (blt_ hw112_2)).trans hw112_2), ((HB.out.cell (blt_ hw112_3)).trans hw112_3), ((HB.out.cell (blt_ hw112_4)).trans hw112_4), ((HB.out.cell (blt_ hw112_5)).trans hw112_5), ((HB.out.cell (blt_ hw112_6)).trans hw112_6), ((HB.out.cell (blt_ hw112_7)).trans hw112_7), ((HB.out.cell (blt_ hw112_8)).trans hw112_8), ((HB.out.cell (blt_ hw112_9)).trans hw112_9), ((HB.out.cell (blt_ hw112_10)).trans hw112_10), ((HB.out.cell (blt_ hw112_11)).trans hw112_11), ((HB.out.cell (blt_ hw112_12)).trans hw112_12), ((HB.out.cell (blt_ hw112_13)).trans hw112_13)⟩ (fun hHeld => ?_)
                  clear hK K
                  refine norm_ (a' := ?_) ?_ ?_
                  rotate_left
                  ·show Act.put _ (some 78) _ = _
                   simp only [Act.put, List.setIfInBounds_toArray, List.set_cons_zero, List.set_cons_succ, i64_w, i32_w]
                   rfl
                  refine pure_ (i := 11) (N := some 79) (v := ?_) (a' := ?_) #[true, true, true, true, true, true, true, true, true, true, true, true, false] rfl rfl (any_of HT_.out (by kernel_rfl)) (fun _ _ _ h => h) (Or.inl ⟨by rfl, ?_⟩) ?_ ?_
                  rotate_left
                  ·intro w'
                   go_simp
                   with_reducible rfl
                  rotate_left
                  ·simp only [Act.put, List.setIfInBounds_toArray, List.set_cons_zero, List.set_cons_succ, i64_w, i32_w]
                   rfl
                  refine pure_ (i := 12) (N := some 9) (v := ?_) (a' := ?_) #[true, true, true, true, true, true, true, true, true, true, true, true, true] rfl rfl (any_of HT_.out (by kernel_rfl)) (fun _ _ _ h => h) (Or.inl ⟨by rfl, ?_⟩) ?_ ?_
                  rotate_left
                  ·intro w'
                   go_simp
                   with_reducible rfl
                  rotate_left
                  ·simp only [Act.put, List.setIfInBounds_toArray, List.set_cons_zero, List.set_cons_succ, i64_w, i32_w]
                   rfl
                  refine done_ (done_of HT_.out (by kernel_rfl)) ?_
                  try go_wp2
                  go_loopg [10] kj22 (fun kq v10 w' => ∃ (x10_5 : Int), v10 = .int .i64 x10_5 ∧ Aside0 (lambrequinlaw13_PlanGreedy.l2 kq t102 t105 x7_3 x8_3 (t113.length : Int) x10_5 a0_0 l0_1 l0_2 = some r) ∧ Aside0 (kq ≤ kj22) ∧ Aside0 (Kd.R (Kd.int .i64) 3 w' w.heap.size (fun _ => True) (.slice (some ad111) t105.length co24) t105) ∧ Aside0 (Kd.R Kd.string 9 w' w.heap.size (fun _ => True) (.slice Ao36 x7_3.length co36) x7_3) ∧ Aside0 (w'.heap[gb101]? = some (.cells #[.string a0_0, (.slice A0_1 l0_1.length c0_1), (.slice (some ad112) l0_2.length c0_2)] 27 (0, 0))) ∧ Aside0 (Below w.heap.size w w'))
                  case atStart => exact ⟨(wrap64 (x8_3 + 1)), (by first | rfl | (simp; done) | (simp [*]; done)), H', ⟨Nat.le_refl _⟩, ⟨by (with_reducible repeat (first | apply Kd.R_alloc | apply Kd.R_drewN | apply Kd.R_drew)); exact Kd.R_mono HO_5.out (fun _ hk => trivial)⟩, ⟨by (with_reducible repeat (first | apply Kd.R_alloc | apply Kd.R_drewN | apply Kd.R_drew)); exact HO_7.out⟩, ⟨by (with_reducible repeat (first | refine blk_drewN ?_ _ | refine blk_drew ?_ | refine blk_alloc ?_ _)); exact BK101.out⟩, ⟨by repeat (first | (with_reducible first | exact HB.out | apply below_alloc | apply pw_below_drewN | apply below_drew1 | refine below_set ?_ GE101.out) | exact HB.out)⟩⟩
                  case round =>
                   clear H'
                   try clear c1
                   try clear p1
                   try clear q1
                   try clear hx1
                   try clear c2
                   try clear p2
                   try clear c3
                   try clear c4
                   try clear p6
                   try clear c7
                   try clear c9
                   try clear c9b0
                   try clear c10
                   try clear c10b0
                   try clear p10
                   try clear q10
                   try clear hx10
                   try clear c11
                   try clear c11b0
                   try clear c11b1
                   try clear p11
                   try clear q11
                   try clear hx11
                   try clear c15
                   try clear c16
                   try clear c17
                   try clear c18
                   try clear c18b0
                   try clear c18b1
                   try clear c20
                   try clear c21
                   try clear c22
                   try clear c22b0
                   try clear c25
                   try clear c25b0
                   try clear c26
                   try clear c26b0
                   try clear c29
                   try clear c30
                   try clear c30b0
                   try clear c31
                   try clear c31b0
                   try clear c32
                   try clear c32b0
                   try clear c33
                   try clear c33b0
                   try clear hcz12_0
                   try clear hcz12_1
                   try clear hcz12_2
                   try clear hcz13_0
                   try clear hcz13_1
                   try clear hcz13_2
                   try clear hcz16_0
                   try clear hcz16_1
                   try clear hcz16_2
                   try clear hcz20_0
                   try clear hcz20_1
                   try clear hcz20_2
                   try clear hcz7_0
                   try clear hcz7_1
                   try clear hcz7_2
                   try clear hfz12_0
                   try clear hfz12_1
                   try clear hfz12_2
                   try clear hfz13_0
                   try clear hfz13_1
                   try clear hfz13_2
                   try clear hfz16_0
                   try clear hfz16_1
                   try clear hfz16_2
                   try clear hfz20_0
                   try clear hfz20_1
                   try clear hfz20_2
                   try clear hfz7_0
                   try clear hfz7_1
                   try clear hfz7_2
                   try clear hx104_0
                   try clear hx104_1
                   try clear hx104_10
                   try clear hx104_11
                   try clear hx104_12
                   try clear hx104_13
                   try clear hx104_2
                   try clear hx104_3
                   try clear hx104_4
                   try clear hx104_5
                   try clear hx104_6
                   try clear hx104_7
                   try clear hx104_8
                   try clear hx104_9
                   try clear hx109_0
                   try clear hx110_0
                   try clear hx111_0
                   try clear hx112_0
                   try clear hx112_1
                   try clear hx112_10
                   try clear hx112_11
                   try clear hx112_12
                   try clear hx112_13
                   try clear hx112_2
                   try clear hx112_3
                   try clear hx112_4
                   try clear hx112_5
                   try clear hx112_6
                   try clear hx112_7
                   try clear hx112_8
                   try clear hx112_9
                   try clear p1
                   try clear p10
                   try clear p104
                   try clear p109
                   try clear p11
                   try clear p110
                   try clear p111
                   try clear p112
                   try clear p2
                   try clear p6
                   try clear q1
                   try clear q10
                   try clear q104
                   try clear q109
                   try clear q11
                   try clear q110
                   try clear q111
                   try clear q112
                   obtain ⟨x10_5, rfl, HA, HK5, HO_5, HO_7, BK101, HB⟩ := hrel
                   cases gk with
                   | zero => exact absurd HA.out (by simp [lambrequinlaw13_PlanGreedy.l2])
                   | succ k5 =>
                    have H := HA.out
                    clear HA
                    simp only [lambrequinlaw13_PlanGreedy.l2] at H
                    by_cases c39 : x10_5 < (t105.length : Int)
                    ·rw [if_pos c39] at H
                     have c39b0 : decide (x10_5 < (t105.length : Int)) = true := decide_eq_true c39
                     clear c39
                     have HC40 := Aside0.mk H
                     clear H
                     go_upto_region 22 with (fail)
                     go_cut [102] (fun v102 wc => ∃ (kq : Nat) (x102_39 : Bool), v102 = .bool x102_39 ∧ Aside0 (lambrequinlaw13_PlanGreedy.j5 kq t102 t105 x7_3 x8_3 (t113.length : Int) x10_5 x102_39 a0_0 l0_1 l0_2 = some r) ∧ Aside0 (kq ≤ k5) ∧ Aside0 (Kd.R (Kd.int .i64) 3 wc w.heap.size (fun _ => True) (.slice (some ad111) t105.length co24) t105) ∧ Aside0 (Kd.R Kd.string 9 wc w.heap.size (fun _ => True) (.slice Ao36 x7_3.length co36) x7_3) ∧ Aside0 (wc.heap[gb101]? = some (.cells #[.string a0_0, (.slice A0_1 l0_1.length c0_1), (.slice (some ad112) l0_2.length c0_2)] 27 (0, 0))) ∧ Aside0 (Below w.heap.size w wc))
                     case first =>
                      have H := HC40.out
                      clear HC40
                      by_cases c41 : 0 ≤ x10_5
                      ·rw [if_pos c41] at H
                       have c41b0 : decide (0 ≤ x10_5) = true := decide_eq_true c41
                       clear c41
                       (first | rw [c41b0] | (simp only [i64_w, i32_w]; rw [c41b0]) | skip)
                       by_cases c42 : (rd t105 x10_5) < 0
                       ·rw [if_pos c42] at H
                        have c42b0 : decide ((rd t105 x10_5) < 0) = true := decide_eq_true c42
                        clear c42
                        have H' := Aside0.mk H
                        clear H
                        try go_wp2
                        have n0_ := Aside0.mk (Kd.R_drew HO_5.out)
                        have n1_ := Aside0.mk (Kd.R_drew HO_7.out)
                        have n2_ := Aside0.mk (blk_drew BK101.out)
                        have n3_ := Aside0.mk (below_drew1 HB.out)
                        clear HO_5
                        clear HO_7
                        clear BK101
                        clear HB
                        have HO_5 := n0_
                        have HO_7 := n1_
                        have BK101 := n2_
                        have HB := n3_
                        clear n0_ n1_ n2_ n3_
                        have p124 : 0 ≤ (x10_5 : Int) := of_decide_eq_true (by first | (with_reducible assumption) | assumption)
                        have q124 : x10_5 < (t105.length : Int) := of_decide_eq_true (by first | (with_reducible assumption) | assumption)
                        obtain ⟨ad124, e124, hx124_0⟩ := Kd.at_int (Kd.R_reads' HO_5.out).2.2 x10_5 p124 q124
                        obtain rfl : ad111 = ad124 := (by injection e124)
                        replace p124 := eq_true p124
                        replace q124 := eq_true q124
                        refine start_ (n := 15) (S := fun w' => w'.cell? (ad111.add (x10_5).toNat) = some (.int .i64 (rd t105 x10_5))) (ds := []) #[false, false, false, false, false, false, false, false, false, false, false, false, false, false, false] (by kernel_rfl) rfl rfl (hx124_0) (fun hHeld => ?_); refine with_tabW lambrequinlaw13_PlanGreedy.tab22 lambrequinlaw13_PlanGreedy.bits22 (fun HT_ HW_ => ?_)
                        generalize wr.drew = w43 at HO_5 HO_7 BK101 HB hx124_0 hHeld ⊢
                        refine pure_ (i := 0) (N := some 88) (v := ?_) (a' := ?_) #[true, false, false, false, false, false, false, false, false, false, false, false, false, false, false] rfl rfl (any_of HT_.out (by kernel_rfl)) (fun _ _ _ h => h) (Or.inl ⟨by rfl, ?_⟩) ?_ ?_
                        rotate_left
                        ·intro w'
                         go_simp
                         with_reducible rfl
                        rotate_left
                        ·simp only [Act.put, List.setIfInBounds_toArray, List.set_cons_zero, List.set_cons_succ, i64_w, i32_w]
                         rfl
                        refine pure_ (i := 1) (N := some 89) (v := ?_) (a' := ?_) #[true, true, false, false, false, false, false, false, false, false, false, false, false, false, false] rfl rfl (any_of HT_.out (by kernel_rfl)) (fun _ _ _ h => h) (Or.inl ⟨by rfl, ?_⟩) ?_ ?_
                        rotate_left
                        ·intro w'
                         go_simp
                         with_reducible rfl
                        rotate_left
                        ·simp only [Act.put, List.setIfInBounds_toArray, List.set_cons_zero, List.set_cons_succ, i64_w, i32_w]
                         rfl
                        refine pure_ (i := 2) (N := some 90) (v := ?_) (a' := ?_) #[true, true, true, false, false, false, false, false, false, false, false, false, false, false, false] rfl rfl (any_of HT_.out (by kernel_rfl)) (fun _ _ _ h => h) (Or.inl ⟨by rfl, ?_⟩) ?_ ?_
                        rotate_left
                        ·intro w'
                         go_simp
                         with_reducible rfl
                        rotate_left
                        ·simp only [Act.put, List.setIfInBounds_toArray, List.set_cons_zero, List.set_cons_succ, i64_w, i32_w]
                         rfl
                        refine take_ (i := 3) (N := some 91) (v := ?_) (a' := ?_) #[true, true, true, true, false, false, false, false, false, false, false, false, false, false, false] rfl rfl (take_ofW HT_.out HW_.out (by kernel_rfl)) (fun _ _ _ h => h) (Or.inl ⟨by rfl, ?_⟩) hHeld ?_ ?_
                        rotate_left
                        ·intro w' s0
                         go_simp
                         with_reducible rfl
                        rotate_left
                        ·simp only [Act.put, List.setIfInBounds_toArray, List.set_cons_zero, List.set_cons_succ, i64_w, i32_w]
                         rfl
                        refine pure_ (i := 4) (N := some 92) (v := ?_) (a' := ?_) #[true, true, true, true, true, false, false, false, false, false, false, false, false, false, false] rfl rfl (any_of HT_.out (by kernel_rfl)) (fun _ _ _ h => h) (Or.inl ⟨by rfl, ?_⟩) ?_ ?_
                        rotate_left
                        ·intro w'
                         go_simp
                         with_reducible rfl
                        rotate_left
                        ·simp only [Act.put, List.setIfInBounds_toArray, List.set_cons_zero, List.set_cons_succ, i64_w, i32_w]
                         rfl
                        refine pure_ (i := 5) (N := some 93) (v := ?_) (a' := ?_) #[true, true, true, true, true, true, false, false, false, false, false, false, false, false, false] rfl rfl (any_of HT_.out (by kernel_rfl)) (fun _ _ _ h => h) (Or.inl ⟨by rfl, ?_⟩) ?_ ?_
                        rotate_left
                        ·intro w'
                         go_simp
                         with_reducible rfl
                        rotate_left
                        ·simp only [Act.put, List.setIfInBounds_toArray, List.set_cons_zero, List.set_cons_succ, i64_w, i32_w]
                         rfl
                        refine pure_ (i := 6) (N := some 94) (v := undef) (a' := ?_) #[true, true, true, true, true, true, true, false, false, false, false, false, false, false, false] rfl rfl (any_of HT_.out (by kernel_rfl)) (fun _ _ _ h => h) (Or.inr ⟨by rfl, rfl⟩) ?_ ?_
                        rotate_left
                        ·simp only [Act.put, List.setIfInBounds_toArray, List.set_cons_zero, List.set_cons_succ, i64_w, i32_w]
                         rfl
                        refine pure_ (i := 7) (N := some 95) (v := undef) (a' := ?_) #[true, true, true, true, true, true, true, true, false, false, false, false, false, false, false] rfl rfl (any_of HT_.out (by kernel_rfl)) (fun _ _ _ h => h) (Or.inr ⟨by rfl, rfl⟩) ?_ ?_
                        rotate_left
                        ·simp only [Act.put, List.setIfInBounds_toArray, List.set_cons_zero, List.set_cons_succ, i64_w, i32_w]
                         rfl
                        refine pure_ (i := 8) (N := some 96) (v := undef) (a' := ?_) #[true, true, true, true, true, true, true, true, true, false, false, false, false, false, false] rfl rfl (any_of HT_.out (by kernel_rfl)) (fun _ _ _ h => h) (Or.inr ⟨by rfl, rfl⟩) ?_ ?_
                        rotate_left
                        ·simp only [Act.put, List.setIfInBounds_toArray, List.set_cons_zero, List.set_cons_succ, i64_w, i32_w]
                         rfl
                        refine pure_ (i := 9) (N := some 97) (v := undef) (a' := ?_) #[true, true, true, true, true, true, true, true, true, true, false, false, false, false, false] rfl rfl (any_of HT_.out (by kernel_rfl)) (fun _ _ _ h => h) (Or.inr ⟨by rfl, rfl⟩) ?_ ?_
                        rotate_left
                        ·simp only [Act.put, List.setIfInBounds_toArray, List.set_cons_zero, List.set_cons_succ, i64_w, i32_w]
                         rfl
                        refine pure_ (i := 10) (N := some 98) (v := undef) (a' := ?_) #[true, true, true, true, true, true, true, true, true, true, true, false, false, false, false] rfl rfl (any_of HT_.out (by kernel_rfl)) (fun _ _ _ h => h) (Or.inr ⟨by rfl, rfl⟩) ?_ ?_
                        rotate_left
                        ·simp only [Act.put, List.setIfInBounds_toArray, List.set_cons_zero, List.set_cons_succ, i64_w, i32_w]
                         rfl
                        refine pure_ (i := 11) (N := some 99) (v := undef) (a' := ?_) #[true, true, true, true, true, true, true, true, true, true, true, true, false, false, false] rfl rfl (any_of HT_.out (by kernel_rfl)) (fun _ _ _ h => h) (Or.inr ⟨by rfl, rfl⟩) ?_ ?_
                        rotate_left
                        ·simp only [Act.put, List.setIfInBounds_toArray, List.set_cons_zero, List.set_cons_succ, i64_w, i32_w]
                         rfl
                        refine pure_ (i := 12) (N := some 100) (v := undef) (a' := ?_) #[true, true, true, true, true, true, true, true, true, true, true, true, true, false, false] rfl rfl (any_of HT_.out (by kernel_rfl)) (fun _ _ _ h => h) (Or.inr ⟨by rfl, rfl⟩) ?_ ?_
                        rotate_left
                        ·simp only [Act.put, List.setIfInBounds_toArray, List.set_cons_zero, List.set_cons_succ, i64_w, i32_w]
                         rfl
                        refine pure_ (i := 13) (N := some 101) (v := undef) (a' := ?_) #[true, true, true, true, true, true, true, true, true, true, true, true, true, true, false] rfl rfl (any_of HT_.out (by kernel_rfl)) (fun _ _ _ h => h) (Or.inr ⟨by rfl, rfl⟩) ?_ ?_
                        rotate_left
                        ·simp only [Act.put, List.setIfInBounds_toArray, List.set_cons_zero, List.set_cons_succ, i64_w, i32_w]
                         rfl
                        refine pure_ (i := 14) (N := some 102) (v := ?_) (a' := ?_) #[true, true, true, true, true, true, true, true, true, true, true, true, true, true, true] rfl rfl (any_of HT_.out (by kernel_rfl)) (fun _ _ _ h => h) (Or.inl ⟨by rfl, ?_⟩) ?_ ?_
                        rotate_left
                        ·intro w'
                         go_simp
                         with_reducible rfl
                        rotate_left
                        ·simp only [Act.put, List.setIfInBounds_toArray, List.set_cons_zero, List.set_cons_succ, i64_w, i32_w]
                         rfl
                        refine done_ (done_of HT_.out (by kernel_rfl)) ?_
                        try go_wp2
                        go_meet
                        case rel => exact ⟨_, (true), (by first | rfl | (simp; done) | (simp [*]; done)), H', ⟨by have := HK1.out; have := HJ14.out; have := HK3.out; have := HJ22.out; have := HK5.out; first | omega | exact Nat.le_refl _⟩, ⟨by (with_reducible repeat (first | apply Kd.R_alloc | apply Kd.R_drewN | apply Kd.R_drew)); exact HO_5.out⟩, ⟨by (with_reducible repeat (first | apply Kd.R_alloc | apply Kd.R_drewN | apply Kd.R_drew)); exact HO_7.out⟩, ⟨by (with_reducible repeat (first | refine blk_drewN ?_ _ | refine blk_drew ?_ | refine blk_alloc ?_ _)); exact BK101.out⟩, ⟨by repeat (first | (with_reducible first | exact HB.out | apply below_alloc | apply pw_below_drewN | apply below_drew1 | refine below_set ?_ GE101.out) | exact HB.out)⟩⟩
                       ·rw [if_neg c42] at H
                        have c42b0 : decide ((rd t105 x10_5) < 0) = false := decide_eq_false c42
                        clear c42
                        have H' := Aside0.mk H
                        clear H
                        try go_wp2
                        have n0_ := Aside0.mk (Kd.R_drew HO_5.out)
                        have n1_ := Aside0.mk (Kd.R_drew HO_7.out)
                        have n2_ := Aside0.mk (blk_drew BK101.out)
                        have n3_ := Aside0.mk (below_drew1 HB.out)
                        clear HO_5
                        clear HO_7
                        clear BK101
                        clear HB
                        have HO_5 := n0_
                        have HO_7 := n1_
                        have BK101 := n2_
                        have HB := n3_
                        clear n0_ n1_ n2_ n3_
                        have p124 : 0 ≤ (x10_5 : Int) := of_decide_eq_true (by first | (with_reducible assumption) | assumption)
                        have q124 : x10_5 < (t105.length : Int) := of_decide_eq_true (by first | (with_reducible assumption) | assumption)
                        obtain ⟨ad124, e124, hx124_0⟩ := Kd.at_int (Kd.R_reads' HO_5.out).2.2 x10_5 p124 q124
                        obtain rfl : ad111 = ad124 := (by injection e124)
                        replace p124 := eq_true p124
                        replace q124 := eq_true q124
                        have p125 : 0 ≤ (x10_5 : Int) := of_decide_eq_true (by first | (with_reducible assumption) | assumption)
                        have q125 : x10_5 < (t105.length : Int) := of_decide_eq_true (by first | (with_reducible assumption) | assumption)
                        obtain ⟨ad125, e125, hx125_0⟩ := Kd.at_int (Kd.R_reads' HO_5.out).2.2 x10_5 p125 q125
                        obtain rfl : ad111 = ad125 := (by injection e125)
                        replace p125 := eq_true p125
                        replace q125 := eq_true q125
                        refine start_ (n := 15) (S := fun w' => w'.cell? ⟨gb101, 0, none⟩ = some (.string a0_0) ∧ w'.cell? ⟨gb101, 1, none⟩ = some (.slice A0_1 l0_1.length c0_1) ∧ w'.cell? ⟨gb101, 2, none⟩ = some (.slice (some ad112) l0_2.length c0_2) ∧ w'.cell? (ad111.add (x10_5).toNat) = some (.int .i64 (rd t105 x10_5)) ∧ w'.cell? (ad111.add (x10_5).toNat) = some (.int .i64 (rd t105 x10_5))) (ds := []) #[false, false, false, false, false, false, false, false, false, false, false, false, false, false, false] (by kernel_rfl) rfl rfl ⟨(blk_cell BK101.out 0).trans rfl, (blk_cell BK101.out 1).trans rfl, (blk_cell BK101.out 2).trans rfl, hx124_0, hx125_0⟩ (fun hHeld => ?_); refine with_tabW lambrequinlaw13_PlanGreedy.tab22 lambrequinlaw13_PlanGreedy.bits22 (fun HT_ HW_ => ?_)
                        generalize wr.drew = w44 at HO_5 HO_7 BK101 HB hx124_0 hx125_0 hHeld ⊢
                        refine pure_ (i := 0) (N := some 88) (v := ?_) (a' := ?_) #[true, false, false, false, false, false, false, false, false, false, false, false, false, false, false] rfl rfl (any_of HT_.out (by kernel_rfl)) (fun _ _ _ h => h) (Or.inl ⟨by rfl, ?_⟩) ?_ ?_
                        rotate_left
                        ·intro w'
                         go_simp
                         with_reducible rfl
                        rotate_left
                        ·simp only [Act.put, List.setIfInBounds_toArray, List.set_cons_zero, List.set_cons_succ, i64_w, i32_w]
                         rfl
                        refine pure_ (i := 1) (N := some 89) (v := ?_) (a' := ?_) #[true, true, false, false, false, false, false, false, false, false, false, false, false, false, false] rfl rfl (any_of HT_.out (by kernel_rfl)) (fun _ _ _ h => h) (Or.inl ⟨by rfl, ?_⟩) ?_ ?_
                        rotate_left
                        ·intro w'
                         go_simp
                         with_reducible rfl
                        rotate_left
                        ·simp only [Act.put, List.setIfInBounds_toArray, List.set_cons_zero, List.set_cons_succ, i64_w, i32_w]
                         rfl
                        refine pure_ (i := 2) (N := some 90) (v := ?_) (a' := ?_) #[true, true, true, false, false, false, false, false, false, false, false, false, false, false, false] rfl rfl (any_of HT_.out (by kernel_rfl)) (fun _ _ _ h => h) (Or.inl ⟨by rfl, ?_⟩) ?_ ?_
                        rotate_left
                        ·intro w'
                         go_simp
                         with_reducible rfl
                        rotate_left
                        ·simp only [Act.put, List.setIfInBounds_toArray, List.set_cons_zero, List.set_cons_succ, i64_w, i32_w]
                         rfl
                        refine take_ (i := 3) (N := some 91) (v := ?_) (a' := ?_) #[true, true, true, true, false, false, false, false, false, false, false, false, false, false, false] rfl rfl (take_ofW HT_.out HW_.out (by kernel_rfl)) (fun _ _ _ h => h) (Or.inl ⟨by rfl, ?_⟩) hHeld ?_ ?_
                        rotate_left
                        ·rintro w' ⟨s0, s1, s2, s3, s4⟩
                         go_simp
                         with_reducible rfl
                        rotate_left
                        ·simp only [Act.put, List.setIfInBounds_toArray, List.set_cons_zero, List.set_cons_succ, i64_w, i32_w]
                         rfl
                        refine pure_ (i := 4) (N := some 92) (v := ?_) (a' := ?_) #[true, true, true, true, true, false, false, false, false, false, false, false, false, false, false] rfl rfl (any_of HT_.out (by kernel_rfl)) (fun _ _ _ h => h) (Or.inl ⟨by rfl, ?_⟩) ?_ ?_
                        rotate_left
                        ·intro w'
                         go_simp
                         with_reducible rfl
                        rotate_left
                        ·simp only [Act.put, List.setIfInBounds_toArray, List.set_cons_zero, List.set_cons_succ, i64_w, i32_w]
                         rfl
                        refine pure_ (i := 5) (N := some 93) (v := ?_) (a' := ?_) #[true, true, true, true, true, true, false, false, false, false, false, false, false, false, false] rfl rfl (any_of HT_.out (by kernel_rfl)) (fun _ _ _ h => h) (Or.inl ⟨by rfl, ?_⟩) ?_ ?_
                        rotate_left
                        ·intro w'
                         go_simp
                         with_reducible rfl
                        rotate_left
                        ·simp only [Act.put, List.setIfInBounds_toArray, List.set_cons_zero, List.set_cons_succ, i64_w, i32_w]
                         rfl
                        refine pure_ (i := 6) (N := some 94) (v := ?_) (a' := ?_) #[true, true, true, true, true, true, true, false, false, false, false, false, false, false, false] rfl rfl (any_of HT_.out (by kernel_rfl)) (fun _ _ _ h => h) (Or.inl ⟨by rfl, ?_⟩) ?_ ?_
                        rotate_left
                        ·intro w'
                         go_simp
                         with_reducible rfl
                        rotate_left
                        ·simp only [Act.put, List.setIfInBounds_toArray, List.set_cons_zero, List.set_cons_succ, i64_w, i32_w]
                         rfl
                        refine pure_ (i := 7) (N := some 95) (v := ?_) (a' := ?_) #[true, true, true, true, true, true, true, true, false, false, false, false, false, false, false] rfl rfl (any_of HT_.out (by kernel_rfl)) (fun _ _ _ h => h) (Or.inl ⟨by rfl, ?_⟩) ?_ ?_
                        rotate_left
                        ·intro w'
                         go_simp
                         with_reducible rfl
                        rotate_left
                        ·simp only [Act.put, List.setIfInBounds_toArray, List.set_cons_zero, List.set_cons_succ, i64_w, i32_w]
                         rfl
                        refine pure_ (i := 8) (N := some 96) (v := ?_) (a' := ?_) #[true, true, true, true, true, true, true, true, true, false, false, false, false, false, false] rfl rfl (any_of HT_.out (by kernel_rfl)) (fun _ _ _ h => h) (Or.inl ⟨by rfl, ?_⟩) ?_ ?_
                        rotate_left
                        ·intro w'
                         go_simp
                         with_reducible rfl
                        rotate_left
                        ·simp only [Act.put, List.setIfInBounds_toArray, List.set_cons_zero, List.set_cons_succ, i64_w, i32_w]
                         rfl
                        refine pure_ (i := 10) (N := some 98) (v := ?_) (a' := ?_) #[true, true, true, true, true, true, true, true, true, false, true, false, false, false, false] rfl rfl (any_of HT_.out (by kernel_rfl)) (fun _ _ _ h => h) (Or.inl ⟨by rfl, ?_⟩) ?_ ?_
                        rotate_left
                        ·intro w'
                         go_simp
                         with_reducible rfl
                        rotate_left
                        ·simp only [Act.put, List.setIfInBounds_toArray, List.set_cons_zero, List.set_cons_succ, i64_w, i32_w]
                         rfl
                        refine take_ (i := 9) (N := some 97) (v := ?_) (a' := ?_) #[true, true, true, true, true, true, true, true, true, true, true, false, false, false, false] rfl rfl (take_ofW HT_.out HW_.out (by kernel_rfl)) (fun _ _ _ h => h) (Or.inl ⟨by rfl, ?_⟩) hHeld ?_ ?_
                        rotate_left
                        ·rintro w' ⟨s0, s1, s2, s3, s4⟩
                         go_simp
                         with_reducible rfl
                        rotate_left
                        ·simp only [Act.put, List.setIfInBounds_toArray, List.set_cons_zero, List.set_cons_succ, i64_w, i32_w]
                         rfl
                        refine take_ (i := 11) (N := some 99) (v := ?_) (a' := ?_) #[true, true, true, true, true, true, true, true, true, true, true, true, false, false, false] rfl rfl (take_ofW HT_.out HW_.out (by kernel_rfl)) (fun _ _ _ h => h) (Or.inl ⟨by rfl, ?_⟩) hHeld ?_ ?_
                        rotate_left
                        ·rintro w' ⟨s0, s1, s2, s3, s4⟩
                         go_simp
                         with_reducible rfl
                        rotate_left
                        ·simp only [Act.put, List.setIfInBounds_toArray, List.set_cons_zero, List.set_cons_succ, i64_w, i32_w]
                         rfl
                        refine pure_ (i := 12) (N := some 100) (v := ?_) (a' := ?_) #[true, true, true, true, true, true, true, true, true, true, true, true, true, false, false] rfl rfl (any_of HT_.out (by kernel_rfl)) (fun _ _ _ h => h) (Or.inl ⟨by rfl, ?_⟩) ?_ ?_
                        rotate_left
                        ·intro w'
                         go_simp
                         with_reducible rfl
                        rotate_left
                        ·simp only [Act.put, List.setIfInBounds_toArray, List.set_cons_zero, List.set_cons_succ, i64_w, i32_w]
                         rfl
                        refine pure_ (i := 13) (N := some 101) (v := ?_) (a' := ?_) #[true, true, true, true, true, true, true, true, true, true, true, true, true, true, false] rfl rfl (any_of HT_.out (by kernel_rfl)) (fun _ _ _ h => h) (Or.inl ⟨by rfl, ?_⟩) ?_ ?_
                        rotate_left
                        ·intro w'
                         go_simp
                         with_reducible rfl
                        rotate_left
                        ·simp only [Act.put, List.setIfInBounds_toArray, List.set_cons_zero, List.set_cons_succ, i64_w, i32_w]
                         rfl
                        refine pure_ (i := 14) (N := some 102) (v := ?_) (a' := ?_) #[true, true, true, true, true, true, true, true, true, true, true, true, true, true, true] rfl rfl (any_of HT_.out (by kernel_rfl)) (fun _ _ _ h => h) (Or.inl ⟨by rfl, ?_⟩) ?_ ?_
                        rotate_left
                        ·intro w'
                         go_simp
                         with_reducible rfl
                        rotate_left
                        ·simp only [Act.put, List.setIfInBounds_toArray, List.set_cons_zero, List.set_cons_succ, i64_w, i32_w]
                         rfl
                        refine done_ (done_of HT_.out (by kernel_rfl)) ?_
                        try go_wp2
                        go_meet
                        case rel => exact ⟨_, (decide ((rd t105 x10_5) ≥ (l0_2.length : Int))), (by first | rfl | (simp; done) | (simp [*]; done)), H', ⟨by have := HK1.out; have := HJ14.out; have := HK3.out; have := HJ22.out; have := HK5.out; first | omega | exact Nat.le_refl _⟩, ⟨by (with_reducible repeat (first | apply Kd.R_alloc | apply Kd.R_drewN | apply Kd.R_drew)); exact HO_5.out⟩, ⟨by (with_reducible repeat (first | apply Kd.R_alloc | apply Kd.R_drewN | apply Kd.R_drew)); exact HO_7.out⟩, ⟨by (with_reducible repeat (first | refine blk_drewN ?_ _ | refine blk_drew ?_ | refine blk_alloc ?_ _)); exact BK101.out⟩, ⟨by repeat (first | (with_reducible first | exact HB.out | apply below_alloc | apply pw_below_drewN | apply below_drew1 | refine below_set ?_ GE101.out) | exact HB.out)⟩⟩
                      ·rw [if_neg c41] at H
                       exact absurd H (by simp)
                     case rest =>
                      clear HC40
                      try clear c1
                      try clear p1
                      try clear q1
                      try clear hx1
                      try clear c2
                      try clear p2
                      try clear c3
                      try clear c4
                      try clear p6
                      try clear c7
                      try clear c9
                      try clear c9b0
                      try clear c10
                      try clear c10b0
                      try clear p10
                      try clear q10
                      try clear hx10
                      try clear c11
                      try clear c11b0
                      try clear c11b1
                      try clear p11
                      try clear q11
                      try clear hx11
                      try clear p12
                      try clear q12
                      try clear hx12
                      try clear c15
                      try clear c16
                      try clear c17
                      try clear c18
                      try clear c18b0
                      try clear c18b1
                      try clear c20
                      try clear c21
                      try clear c22
                      try clear c22b0
                      try clear c25
                      try clear c25b0
                      try clear c26
                      try clear c26b0
                      try clear c29
                      try clear c30
                      try clear c30b0
                      try clear c31
                      try clear c31b0
                      try clear c32
                      try clear c32b0
                      try clear c33
                      try clear c33b0
                      try clear c39
                      try clear c39b0
                      try clear c41
                      try clear c41b0
                      try clear c42
                      try clear c42b0
                      try clear hcz12_0
                      try clear hcz12_1
                      try clear hcz12_2
                      try clear hcz13_0
                      try clear hcz13_1
                      try clear hcz13_2
                      try clear hcz16_0
                      try clear hcz16_1
                      try clear hcz16_2
                      try clear hcz20_0
                      try clear hcz20_1
                      try clear hcz20_2
                      try clear hcz7_0
                      try clear hcz7_1
                      try clear hcz7_2
                      try clear hfz12_0
                      try clear hfz12_1
                      try clear hfz12_2
                      try clear hfz13_0
                      try clear hfz13_1
                      try clear hfz13_2
                      try clear hfz16_0
                      try clear hfz16_1
                      try clear hfz16_2
                      try clear hfz20_0
                      try clear hfz20_1
                      try clear hfz20_2
                      try clear hfz7_0
                      try clear hfz7_1
                      try clear hfz7_2
                      try clear hx104_0
                      try clear hx104_1
                      try clear hx104_10
                      try clear hx104_11
                      try clear hx104_12
                      try clear hx104_13
                      try clear hx104_2
                      try clear hx104_3
                      try clear hx104_4
                      try clear hx104_5
                      try clear hx104_6
                      try clear hx104_7
                      try clear hx104_8
                      try clear hx104_9
                      try clear hx109_0
                      try clear hx110_0
                      try clear hx111_0
                      try clear hx112_0
                      try clear hx112_1
                      try clear hx112_10
                      try clear hx112_11
                      try clear hx112_12
                      try clear hx112_13
                      try clear hx112_2
                      try clear hx112_3
                      try clear hx112_4
                      try clear hx112_5
                      try clear hx112_6
                      try clear hx112_7
                      try clear hx112_8
                      try clear hx112_9
                      try clear hx124_0
                      try clear hx125_0
                      try clear p1
                      try clear p10
                      try clear p104
                      try clear p109
                      try clear p11
                      try clear p110
                      try clear p111
                      try clear p112
                      try clear p124
                      try clear p125
                      try clear p2
                      try clear p6
                      try clear q1
                      try clear q10
                      try clear q104
                      try clear q109
                      try clear q11
                      try clear q110
                      try clear q111
                      try clear q112
                      try clear q124
                      try clear q125
                      obtain ⟨kq, x102_39, rfl, HA, HJ39, HO_5, HO_7, BK101, HB⟩ := hcut
                      cases kq with
                      | zero => exact absurd HA.out (by simp [lambrequinlaw13_PlanGreedy.j5])
                      | succ kj39 =>
                       have H := HA.out
                       clear HA
                       simp only [lambrequinlaw13_PlanGreedy.j5] at H
                       by_cases c45 : x102_39 = true
                       ·subst c45
                        have H1 : (some false) = some r := by rw [if_pos rfl] at H; exact H
                        clear H
                        have H := H1
                        clear H1
                        obtain rfl := Option.some.inj H
                        go_wp2
                        go_ret
                        exact ⟨by first | rfl | (simp [errW_none, errW_some] <;> rfl) | (simp [*, errW_none, errW_some] <;> rfl), by repeat (first | (with_reducible first | exact HB.out | apply below_alloc | apply pw_below_drewN | apply below_drew1 | refine below_set ?_ GE101.out) | exact HB.out)⟩
                       ·replace c45 := Bool.eq_false_iff.mpr c45
                        subst c45
                        have H1 : (if 0 ≤ x10_5 then (if x10_5 < (t105.length : Int) then (if 0 ≤ (rd t105 x10_5) then (if (rd t105 x10_5) < (l0_2.length : Int) then ((plan_Cols.f kj39 ((rd_T47 l0_2 (rd t105 x10_5)).atom.pred) ((rd_T47 l0_2 (rd t105 x10_5)).atom.args) x7_3).bind fun t128 => (if (t128.length : Int) > (t113.length : Int) then (lambrequinlaw13_PlanGreedy.j6 kj39 t102 t105 x7_3 x8_3 (t113.length : Int) x10_5 true a0_0 l0_1 l0_2) else (if (t128.length : Int) = (t113.length : Int) then (if 0 ≤ x8_3 then (if x8_3 < (t105.length : Int) then (lambrequinlaw13_PlanGreedy.j6 kj39 t102 t105 x7_3 x8_3 (t113.length : Int) x10_5 (decide ((rd t105 x10_5) < (rd t105 x8_3))) a0_0 l0_1 l0_2) else (none)) else (none)) else (lambrequinlaw13_PlanGreedy.j6 kj39 t102 t105 x7_3 x8_3 (t113.length : Int) x10_5 false a0_0 l0_1 l0_2)))) else (none)) else (none)) else (none)) else (none)) = some r := by rw [if_neg (show ¬ (false = true) by decide)] at H; exact H
                        clear H
                        have H := H1
                        clear H1
                        by_cases c46 : 0 ≤ x10_5
                        ·rw [if_pos c46] at H
                         have c46b0 : decide (0 ≤ x10_5) = true := decide_eq_true c46
                         clear c46
                         by_cases c47 : x10_5 < (t105.length : Int)
                         ·rw [if_pos c47] at H
                          have c47b0 : decide (x10_5 < (t105.length : Int)) = true := decide_eq_true c47
                          clear c47
                          by_cases c48 : 0 ≤ (rd t105 x10_5)
                          ·rw [if_pos c48] at H
                           have c48b0 : decide (0 ≤ (rd t105 x10_5)) = true := decide_eq_true c48
                           clear c48
                           by_cases c49 : (rd t105 x10_5) < (l0_2.length : Int)
                           ·rw [if_pos c49] at H
                            have c49b0 : decide ((rd t105 x10_5) < (l0_2.length : Int)) = true := decide_eq_true c49
                            clear c49
                            replace H := Option.bind_eq_some_iff.mp H
                            obtain ⟨t128, A500, H⟩ := H
                            replace H : (if (t128.length : Int) > (t113.length : Int) then (lambrequinlaw13_PlanGreedy.j6 kj39 t102 t105 x7_3 x8_3 (t113.length : Int) x10_5 true a0_0 l0_1 l0_2) else (if (t128.length : Int) = (t113.length : Int) then (if 0 ≤ x8_3 then (if x8_3 < (t105.length : Int) then (lambrequinlaw13_PlanGreedy.j6 kj39 t102 t105 x7_3 x8_3 (t113.length : Int) x10_5 (decide ((rd t105 x10_5) < (rd t105 x8_3))) a0_0 l0_1 l0_2) else (none)) else (none)) else (lambrequinlaw13_PlanGreedy.j6 kj39 t102 t105 x7_3 x8_3 (t113.length : Int) x10_5 false a0_0 l0_1 l0_2))) = some r := H
                            have A50 := Aside0.mk A500
                            clear A500
                            have HC51 := Aside0.mk H
                            clear H
                            try go_wp2
                            have n0_ := Aside0.mk (Kd.R_drew HO_5.out)
                            have n1_ := Aside0.mk (Kd.R_drew HO_7.out)
                            have n2_ := Aside0.mk (blk_drew BK101.out)
                            have n3_ := Aside0.mk (below_drew1 HB.out)
                            clear HO_5
                            clear HO_7
                            clear BK101
                            clear HB
                            have HO_5 := n0_
                            have HO_7 := n1_
                            have BK101 := n2_
                            have HB := n3_
                            clear n0_ n1_ n2_ n3_
                            have p126 : 0 ≤ (x10_5 : Int) := of_decide_eq_true (by first | (with_reducible assumption) | assumption)
                            have q126 : x10_5 < (t105.length : Int) := of_decide_eq_true (by first | (with_reducible assumption) | assumption)
                            obtain ⟨ad126, e126, hx126_0⟩ := Kd.at_int (Kd.R_reads' HO_5.out).2.2 x10_5 p126 q126
                            obtain rfl : ad111 = ad126 := (by injection e126)
                            replace p126 := eq_true p126
                            replace q126 := eq_true q126
                            have p127 : 0 ≤ ((rd t105 x10_5) : Int) := of_decide_eq_true (by first | (with_reducible assumption) | assumption)
                            have q127 : (rd t105 x10_5) < (l0_2.length : Int) := of_decide_eq_true (by first | (with_reducible assumption) | assumption)
                            obtain ⟨ad127, A127_2, c127_2, e127, hx127_0, hx127_1, hx127_2, hx127_3, hx127_4, hx127_5, hx127_6, hx127_7, hx127_8, hx127_9, hx127_10, hx127_11, hx127_12, hx127_13, hl127_2, hi127_2⟩ := at_T47 HR0_2.out (rd t105 x10_5) p127 q127
                            have hw127_13 := hx127_13
                            have hw127_12 := hx127_12
                            have hw127_11 := hx127_11
                            have hw127_10 := hx127_10
                            have hw127_9 := hx127_9
                            have hw127_8 := hx127_8
                            have hw127_7 := hx127_7
                            have hw127_6 := hx127_6
                            have hw127_5 := hx127_5
                            have hw127_4 := hx127_4
                            have hw127_3 := hx127_3
                            have hw127_2 := hx127_2
                            have hw127_1 := hx127_1
                            have hw127_0 := hx127_0
                            obtain rfl : ad112 = ad127 := (by injection e127)
                            replace hx127_0 := (HB.out.cell (blt_ hx127_0)).trans hx127_0
                            replace hx127_1 := (HB.out.cell (blt_ hx127_1)).trans hx127_1
                            replace hx127_2 := (HB.out.cell (blt_ hx127_2)).trans hx127_2
                            replace hx127_3 := (HB.out.cell (blt_ hx127_3)).trans hx127_3
                            replace hx127_4 := (HB.out.cell (blt_ hx127_4)).trans hx127_4
                            replace hx127_5 := (HB.out.cell (blt_ hx127_5)).trans hx127_5
                            replace hx127_6 := (HB.out.cell (blt_ hx127_6)).trans hx127_6
                            replace hx127_7 := (HB.out.cell (blt_ hx127_7)).trans hx127_7
                            replace hx127_8 := (HB.out.cell (blt_ hx127_8)).trans hx127_8
                            replace hx127_9 := (HB.out.cell (blt_ hx127_9)).trans hx127_9
                            replace hx127_10 := (HB.out.cell (blt_ hx127_10)).trans hx127_10
                            replace hx127_11 := (HB.out.cell (blt_ hx127_11)).trans hx127_11
                            replace hx127_12 := (HB.out.cell (blt_ hx127_12)).trans hx127_12
                            replace hx127_13 := (HB.out.cell (blt_ hx127_13)).trans hx127_13
                            have HR127_2 := Aside0.mk hi127_2
                            have HC127_2 := Aside0.mk hl127_2
                            clear hi127_2 hl127_2
                            replace p127 := eq_true p127
                            replace q127 := eq_true q127
                            refine start_ (n := 13) (S := fun w' => w'.cell? ⟨gb101, 0, none⟩ = some (.string a0_0) ∧ w'.cell? ⟨gb101, 1, none⟩ = some (.slice A0_1 l0_1.length c0_1) ∧ w'.cell? ⟨gb101, 2, none⟩ = some (.slice (some ad112) l0_2.length c0_2) ∧ w'.cell? (ad111.add (x10_5).toNat) = some (.int .i64 (rd t105 x10_5)) ∧ w'.cell? (ad112.add (((rd t105 x10_5)).toNat * 14)) = some (.int .i64 ((rd_T47 l0_2 (rd t105 x10_5)).kind)) ∧ w'.cell? ⟨(ad112.add (((rd t105 x10_5)).toNat * 14)).block, (ad112.add (((rd t105 x10_5)).toNat * 14)).off + 1, none⟩ = some (.string ((rd_T47 l0_2 (rd t105 x10_5)).atom.pred)) ∧ w'.cell? ⟨(ad112.add (((rd t105 x10_5)).toNat * 14)).block, (ad112.add (((rd t105 x10_5)).toNat * 14)).off + 2, none⟩ = some (.slice A127_2 ((rd_T47 l0_2 (rd t105 x10_5)).atom.args).length c127_2) ∧ w'.cell? ⟨(ad112.add (((rd t105 x10_5)).toNat * 14)).block, (ad112.add (((rd t105 x10_5)).toNat * 14)).off + 3, none⟩ = some (.string ((rd_T47 l0_2 (rd t105 x10_5)).op)) ∧ w'.cell? ⟨(ad112.add (((rd t105 x10_5)).toNat * 14)).block, (ad112.add (((rd t105 x10_5)).toNat * 14)).off + 4, none⟩ = some (.bool ((rd_T47 l0_2 (rd t105 x10_5)).l.isVar)) ∧ w'.cell? ⟨(ad112.add (((rd t105 x10_5)).toNat * 14)).block, (ad112.add (((rd t105 x10_5)).toNat * 14)).off + 5, none⟩ = some (.string ((rd_T47 l0_2 (rd t105 x10_5)).l.name)) ∧ w'.cell? ⟨(ad112.add (((rd t105 x10_5)).toNat * 14)).block, (ad112.add (((rd t105 x10_5)).toNat * 14)).off + 6, none⟩ = some (.bool ((rd_T47 l0_2 (rd t105 x10_5)).l.val.isSym)) ∧ w'.cell? ⟨(ad112.add (((rd t105 x10_5)).toNat * 14)).block, (ad112.add (((rd t105 x10_5)).toNat * 14)).off + 7, none⟩ = some (.string ((rd_T47 l0_2 (rd t105 x10_5)).l.val.sym)) ∧ w'.cell? ⟨(ad112.add (((rd t105 x10_5)).toNat * 14)).block, (ad112.add (((rd t105 x10_5)).toNat * 14)).off + 8, none⟩ = some (.int .i64 ((rd_T47 l0_2 (rd t105 x10_5)).l.val.n)) ∧ w'.cell? ⟨(ad112.add (((rd t105 x10_5)).toNat * 14)).block, (ad112.add (((rd t105 x10_5)).toNat * 14)).off + 9, none⟩ = some (.bool ((rd_T47 l0_2 (rd t105 x10_5)).r.isVar)) ∧ w'.cell? ⟨(ad112.add (((rd t105 x10_5)).toNat * 14)).block, (ad112.add (((rd t105 x10_5)).toNat * 14)).off + 10, none⟩ = some (.string ((rd_T47 l0_2 (rd t105 x10_5)).r.name)) ∧ w'.cell? ⟨(ad112.add (((rd t105 x10_5)).toNat * 14)).block, (ad112.add (((rd t105 x10_5)).toNat * 14)).off + 11, none⟩ = some (.bool ((rd_T47 l0_2 (rd t105 x10_5)).r.val.isSym)) ∧ w'.cell? ⟨(ad112.add (((rd t105 x10_5)).toNat * 14)).block, (ad112.add (((rd t105 x10_5)).toNat * 14)).off + 12, none⟩ = some (.string ((rd_T47 l0_2 (rd t105 x10_5)).r.val.sym)) ∧ w'.cell? ⟨(ad112.add (((rd t105 x10_5)).toNat * 14)).block, (ad112.add (((rd t105 x10_5)).toNat * 14)).off + 13, none⟩ = some (.int .i64 ((rd_T47 l0_2 (rd t105 x10_5)).r.val.n))) (ds := []) #[false, false, false, false, false, false, false, false, false, false, false, false, false] (by kernel_rfl) rfl rfl ⟨(blk_cell BK101.out 0).trans rfl, (blk_cell BK101.out 1).trans rfl, (blk_cell BK101.out 2).trans rfl, hx126_0, ((HB.out.cell (blt_ hw127_0)).trans hw127_0), ((HB.out.cell (blt_ hw127_1)).trans hw127_1), ((HB.out.cell (blt_ hw127_2)).trans hw127_2), ((HB.out.cell (blt_ hw127_3)).trans hw127_3), ((HB.out.cell (blt_ hw127_4)).trans hw127_4), ((HB.out.cell (blt_ hw127_5)).trans hw127_5), ((HB.out.cell (blt_ hw127_6)).trans hw127_6), ((HB.out.cell (blt_ hw127_7)).trans hw127_7), ((HB.out.cell (blt_ hw127_8)).trans hw127_8), ((HB.out.cell (blt_ hw127_9)).trans hw127_9), ((HB.out.cell (blt_ hw127_10)).trans hw127_10), ((HB.out.cell (blt_ hw127_11)).trans hw127_11), ((HB.out.cell (blt_ hw127_12)).trans hw127_12), ((HB.out.cell (blt_ hw127_13)).trans hw127_13)⟩ (fun hHeld => ?_); refine with_tabW lambrequinlaw13_PlanGreedy.tab24 lambrequinlaw13_PlanGreedy.bits24 (fun HT_ HW_ => ?_)
                            generalize wc.drew = w52 at HO_5 HO_7 BK101 HB HR127_2 hx126_0 hx127_0 hx127_1 hx127_10 hx127_11 hx127_12 hx127_13 hx127_2 hx127_3 hx127_4 hx127_5 hx127_6 hx127_7 hx127_8 hx127_9 hHeld ⊢
                            refine pure_ (i := 0) (N := some 103) (v := ?_) (a' := ?_) #[true, false, false, false, false, false, false, false, false, false, false, false, false] rfl rfl (any_of HT_.out (by kernel_rfl)) (fun _ _ _ h => h) (Or.inl ⟨by rfl, ?_⟩) ?_ ?_
                            rotate_left
                            ·intro w'
                             go_simp
                             with_reducible rfl
                            rotate_left
                            ·simp only [Act.put, List.setIfInBounds_toArray, List.set_cons_zero, List.set_cons_succ, i64_w, i32_w]
                             rfl
                            refine pure_ (i := 2) (N := some 105) (v := ?_) (a' := ?_) #[true, false, true, false, false, false, false, false, false, false, false, false, false] rfl rfl (any_of HT_.out (by kernel_rfl)) (fun _ _ _ h => h) (Or.inl ⟨by rfl, ?_⟩) ?_ ?_
                            rotate_left
                            ·intro w'
                             go_simp
                             with_reducible rfl
                            rotate_left
                            ·simp only [Act.put, List.setIfInBounds_toArray, List.set_cons_zero, List.set_cons_succ, i64_w, i32_w]
                             rfl
                            refine pure_ (i := 3) (N := some 106) (v := ?_) (a' := ?_) #[true, false, true, true, false, false, false, false, false, false, false, false, false] rfl rfl (any_of HT_.out (by kernel_rfl)) (fun _ _ _ h => h) (Or.inl ⟨by rfl, ?_⟩) ?_ ?_
                            rotate_left
                            ·intro w'
                             go_simp
                             with_reducible rfl
                            rotate_left
                            ·simp only [Act.put, List.setIfInBounds_toArray, List.set_cons_zero, List.set_cons_succ, i64_w, i32_w]
                             rfl
                            refine pure_ (i := 4) (N := some 107) (v := ?_) (a' := ?_) #[true, false, true, true, true, false, false, false, false, false, false, false, false] rfl rfl (any_of HT_.out (by kernel_rfl)) (fun _ _ _ h => h) (Or.inl ⟨by rfl, ?_⟩) ?_ ?_
                            rotate_left
                            ·intro w'
                             go_simp
                             with_reducible rfl
                            rotate_left
                            ·simp only [Act.put, List.setIfInBounds_toArray, List.set_cons_zero, List.set_cons_succ, i64_w, i32_w]
                             rfl
                            refine pure_ (i := 9) (N := some 112) (v := ?_) (a' := ?_) #[true, false, true, true, true, false, false, false, false, true, false, false, false] rfl rfl (any_of HT_.out (by kernel_rfl)) (fun _ _ _ h => h) (Or.inl ⟨by rfl, ?_⟩) ?_ ?_
                            rotate_left
                            ·intro w'
                             go_simp
                             with_reducible rfl
                            rotate_left
                            ·simp only [Act.put, List.setIfInBounds_toArray, List.set_cons_zero, List.set_cons_succ, i64_w, i32_w]
                             rfl
                            refine take_ (i := 1) (N := some 104) (v := ?_) (a' := ?_) #[true, true, true, true, true, false, false, false, false, true, false, false, false] rfl rfl (take_ofW HT_.out HW_.out (by kernel_rfl)) (fun _ _ _ h => h) (Or.inl ⟨by rfl, ?_⟩) hHeld ?_ ?_
                            rotate_left
                            ·rintro w' ⟨s0, s1, s2, s3, s4, s5, s6, s7, s8, s9, s10, s11, s12, s13, s14, s15, s16, s17⟩
                             go_simp
                             with_reducible rfl
                            rotate_left
                            ·simp only [Act.put, List.setIfInBounds_toArray, List.set_cons_zero, List.set_cons_succ, i64_w, i32_w]
                             rfl
                            refine take_ (i := 5) (N := some 108) (v := ?_) (a' := ?_) #[true, true, true, true, true, true, false, false, false, true, false, false, false] rfl rfl (take_ofW HT_.out HW_.out (by kernel_rfl)) (fun _ _ _ h => h) (Or.inl ⟨by rfl, ?_⟩) hHeld ?_ ?_
                            rotate_left
                            ·rintro w' ⟨s0, s1, s2, s3, s4, s5, s6, s7, s8, s9, s10, s11, s12, s13, s14, s15, s16, s17⟩
                             go_simp
                             with_reducible rfl
                            rotate_left
                            ·simp only [Act.put, List.setIfInBounds_toArray, List.set_cons_zero, List.set_cons_succ, i64_w, i32_w]
                             rfl
                            refine pure_ (i := 6) (N := some 109) (v := ?_) (a' := ?_) #[true, true, true, true, true, true, true, false, false, true, false, false, false] rfl rfl (any_of HT_.out (by kernel_rfl)) (fun _ _ _ h => h) (Or.inl ⟨by rfl, ?_⟩) ?_ ?_
                            rotate_left
                            ·intro w'
                             go_simp
                             with_reducible rfl
                            rotate_left
                            ·simp only [Act.put, List.setIfInBounds_toArray, List.set_cons_zero, List.set_cons_succ, i64_w, i32_w]
                             rfl
                            refine pure_ (i := 7) (N := some 110) (v := ?_) (a' := ?_) #[true, true, true, true, true, true, true, true, false, true, false, false, false] rfl rfl (any_of HT_.out (by kernel_rfl)) (fun _ _ _ h => h) (Or.inl ⟨by rfl, ?_⟩) ?_ ?_
                            rotate_left
                            ·intro w'
                             go_simp
                             with_reducible rfl
                            rotate_left
                            ·simp only [Act.put, List.setIfInBounds_toArray, List.set_cons_zero, List.set_cons_succ, i64_w, i32_w]
                             rfl
                            refine take_ (i := 8) (N := some 111) (v := ?_) (a' := ?_) #[true, true, true, true, true, true, true, true, true, true, false, false, false] rfl rfl (take_ofW HT_.out HW_.out (by kernel_rfl)) (fun _ _ _ h => h) (Or.inl ⟨by rfl, ?_⟩) hHeld ?_ ?_
                            rotate_left
                            ·rintro w' ⟨s0, s1, s2, s3, s4, s5, s6, s7, s8, s9, s10, s11, s12, s13, s14, s15, s16, s17⟩
                             go_simp
                             with_reducible rfl
                            rotate_left
                            ·simp only [Act.put, List.setIfInBounds_toArray, List.set_cons_zero, List.set_cons_succ, i64_w, i32_w]
                             rfl
                            refine one_ (i := 10) (N := some 113) #[true, true, true, true, true, true, true, true, true, true, true, false, false] rfl rfl (one_of HT_.out (by kernel_rfl)) (by decide) (fun K hK => ?_)
                            refine goes_ Try.func20 (by kernel_rfl) rfl #[.agg #[.string ((rd_T47 l0_2 (rd t105 x10_5)).atom.pred), .slice A127_2 ((rd_T47 l0_2 (rd t105 x10_5)).atom.args).length c127_2], .slice Ao36 x7_3.length co36] (by rfl) rfl rfl (by (try simp only [List.map_toArray, List.map_cons, List.map_nil]); first | done | rfl | (simp only [List.length_drop, List.length_take]; rfl)) ?_
                            with_reducible refine (plan_Cols.calls kj39 ((rd_T47 l0_2 (rd t105 x10_5)).atom.pred) _ _ ((rd_T47 l0_2 (rd t105 x10_5)).atom.args) _ _ x7_3 t128 _ ?side1 ?side2 ?side3 ?side4 A50.out).mono ?_
                            (case side1 => repeat (first | exact (Kd.C_below HR127_2.out HB.out) | (with_reducible refine Kd.C_alloc ?_ _) | (with_reducible refine Kd.C_drewN ?_ _) | (with_reducible refine Kd.C_drew ?_)))
                            (case side2 => exact HC127_2.out)
                            (case side3 => repeat (first | exact (Kd.R_reads' HO_7.out).2.2 | (with_reducible refine Kd.C_alloc ?_ _) | (with_reducible refine Kd.C_drewN ?_ _) | (with_reducible refine Kd.C_drew ?_)))
                            (case side4 => exact (Kd.R_reads' HO_7.out).2.1)
                            rintro e w53 ⟨v129, rfl, ho0, hb⟩
                            have HS3_ := (hb.cell (blt_ (hHeld.2.2.2.1))).trans (hHeld.2.2.2.1)
                            refine ⟨_, rfl, ?_⟩
                            have n0_ := Aside0.mk (Kd.R_elder' (by (with_reducible repeat (first | apply Kd.R_alloc | apply Kd.R_drewN | apply Kd.R_drew)); exact HO_5.out) (Kd.R_base ho0) hb)
                            have n1_ := Aside0.mk (Kd.R_below (by (with_reducible repeat (first | apply Kd.R_alloc | apply Kd.R_drewN | apply Kd.R_drew)); exact HO_7.out) hb)
                            have n2_ := Aside0.mk (Kd.R_lower (Kd.R_new' ho0 (Kd.R_lt (by (with_reducible repeat (first | apply Kd.R_alloc | apply Kd.R_drewN | apply Kd.R_drew)); exact HO_5.out))) (below_size (by repeat (first | (with_reducible first | exact HB.out | apply below_alloc | apply pw_below_drewN | apply below_drew1 | refine below_set ?_ GE101.out) | exact HB.out))))
                            have n3_ := Aside0.mk (blk_below (g := gb101) (o := .cells #[.string a0_0, .slice A0_1 l0_1.length c0_1, .slice (some ad112) l0_2.length c0_2] 27 (0, 0)) (by (with_reducible repeat (first | refine blk_drewN ?_ _ | refine blk_drew ?_ | refine blk_alloc ?_ _)); exact BK101.out) hb)
                            have n4_ := Aside0.mk (below_step (by repeat (first | (with_reducible first | exact HB.out | apply below_alloc | apply pw_below_drewN | apply below_drew1 | refine below_set ?_ GE101.out) | exact HB.out)) hb)
                            clear HO_5
                            clear HO_7
                            clear BK101
                            clear HB
                            have HO_5 := n0_
                            have HO_7 := n1_
                            have HO130 := n2_
                            have BK101 := n3_
                            have HB := n4_
                            clear n0_ n1_ n2_ n3_ n4_
                            (try clear hb)
                            (try clear hb2)
                            (try clear hk)
                            (try clear hi)
                            (try clear ho0)
                            obtain ⟨Ao54, co54, eo54⟩ := Kd.R_slice HO130.out
                            (first | subst eo54 | (injection eo54 with f1_ f2_ f3_; have f4_ := f1_.symm; have f5_ := f3_.symm; clear f1_ f2_ f3_; subst f4_; subst f5_))
                            refine hK.out _ _ ⟨(blk_cell BK101.out 0).trans rfl, (blk_cell BK101.out 1).trans rfl, (blk_cell BK101.out 2).trans rfl, HS3_, ((HB.out.cell (blt_ hw127_0)).trans hw127_0), ((HB.out.cell (blt_ hw127_1)).trans hw127_1), ((HB.out.cell (blt_ hw127_2)).trans hw127_2), ((HB.out.cell (blt_ hw127_3)).trans hw127_3), ((HB.out.cell (blt_ hw127_4)).trans hw127_4), ((HB.out.cell (blt_ hw127_5)).trans hw127_5), ((HB.out.cell (blt_ hw127_6)).trans hw127_6), ((HB.out.cell (blt_ hw127_7)).trans hw127_7), ((HB.out.cell (blt_ hw127_8)).trans hw127_8), ((HB.out.cell (blt_ hw127_9)).trans hw127_9), ((HB.out.cell (blt_ hw127_10)).trans hw127_10), ((HB.out.cell (blt_ hw127_11)).trans hw127_11), ((HB.out.cell (blt_ hw127_12)).trans hw127_12), ((HB.out.cell (blt_ hw127_13)).trans hw127_13)⟩ (fun hHeld => ?_)
                            clear hK K
                            refine norm_ (a' := ?_) ?_ ?_
                            rotate_left
                            ·show Act.put _ (some 113) _ = _
                             simp only [Act.put, List.setIfInBounds_toArray, List.set_cons_zero, List.set_cons_succ, i64_w, i32_w]
                             rfl
                            refine pure_ (i := 11) (N := some 114) (v := ?_) (a' := ?_) #[true, true, true, true, true, true, true, true, true, true, true, true, false] rfl rfl (any_of HT_.out (by kernel_rfl)) (fun _ _ _ h => h) (Or.inl ⟨by rfl, ?_⟩) ?_ ?_
                            rotate_left
                            ·intro w'
                             go_simp
                             with_reducible rfl
                            rotate_left
                            ·simp only [Act.put, List.setIfInBounds_toArray, List.set_cons_zero, List.set_cons_succ, i64_w, i32_w]
                             rfl
                            refine pure_ (i := 12) (N := some 11) (v := ?_) (a' := ?_) #[true, true, true, true, true, true, true, true, true, true, true, true, true] rfl rfl (any_of HT_.out (by kernel_rfl)) (fun _ _ _ h => h) (Or.inl ⟨by rfl, ?_⟩) ?_ ?_
                            rotate_left
                            ·intro w'
                             go_simp
                             with_reducible rfl
                            rotate_left
                            ·simp only [Act.put, List.setIfInBounds_toArray, List.set_cons_zero, List.set_cons_succ, i64_w, i32_w]
                             rfl
                            refine done_ (done_of HT_.out (by kernel_rfl)) ?_
                            go_upto_region 25 with (fail)
                            go_cut [133] (fun v133 wc => ∃ (kq : Nat) (x133_50 : Bool), v133 = .bool x133_50 ∧ Aside0 (lambrequinlaw13_PlanGreedy.j6 kq t102 t105 x7_3 x8_3 (t113.length : Int) x10_5 x133_50 a0_0 l0_1 l0_2 = some r) ∧ Aside0 (kq ≤ kj39) ∧ Aside0 (Kd.R (Kd.int .i64) 3 wc w.heap.size (fun _ => True) (.slice (some ad111) t105.length co24) t105) ∧ Aside0 (Kd.R Kd.string 9 wc w.heap.size (fun _ => True) (.slice Ao36 x7_3.length co36) x7_3) ∧ Aside0 (wc.heap[gb101]? = some (.cells #[.string a0_0, (.slice A0_1 l0_1.length c0_1), (.slice (some ad112) l0_2.length c0_2)] 27 (0, 0))) ∧ Aside0 (Below w.heap.size w wc))
                            case first =>
                             have H := HC51.out
                             clear HC51
                             by_cases c55 : (t128.length : Int) > (t113.length : Int)
                             ·rw [if_pos c55] at H
                              have c55b0 : decide ((t113.length : Int) < (t128.length : Int)) = true := decide_eq_true c55
                              have c55b1 : decide (t113.length < t128.length) = true := decide_eq_true (Int.ofNat_lt.mp c55)
                              clear c55
                              (first | rw [c55b0] | (simp only [i64_w, i32_w]; rw [c55b0]) | skip)
                              have H' := Aside0.mk H
                              clear H
                              try go_wp2
                              have n0_ := Aside0.mk (Kd.R_drew HO_5.out)
                              have n1_ := Aside0.mk (Kd.R_drew HO_7.out)
                              have n2_ := Aside0.mk (Kd.R_drew HO130.out)
                              have n3_ := Aside0.mk (blk_drew BK101.out)
                              have n4_ := Aside0.mk (below_drew1 HB.out)
                              clear HO_5
                              clear HO_7
                              clear HO130
                              clear BK101
                              clear HB
                              have HO_5 := n0_
                              have HO_7 := n1_
                              have HO130 := n2_
                              have BK101 := n3_
                              have HB := n4_
                              clear n0_ n1_ n2_ n3_ n4_
                              refine start_ (n := 19) (S := fun w' => True) (ds := []) #[false, false, false, false, false, false, false, false, false, false, false, false, false, false, false, false, false, false, false] (by kernel_rfl) rfl rfl trivial (fun hHeld => ?_); refine with_tabW lambrequinlaw13_PlanGreedy.tab25 lambrequinlaw13_PlanGreedy.bits25 (fun HT_ HW_ => ?_)
                              generalize w53.drew = w56 at HO_5 HO_7 HO130 BK101 HB hHeld ⊢
                              refine pure_ (i := 0) (N := some 115) (v := ?_) (a' := ?_) #[true, false, false, false, false, false, false, false, false, false, false, false, false, false, false, false, false, false, false] rfl rfl (any_of HT_.out (by kernel_rfl)) (fun _ _ _ h => h) (Or.inl ⟨by rfl, ?_⟩) ?_ ?_
                              rotate_left
                              ·intro w'
                               go_simp
                               with_reducible rfl
                              rotate_left
                              ·simp only [Act.put, List.setIfInBounds_toArray, List.set_cons_zero, List.set_cons_succ, i64_w, i32_w]
                               rfl
                              refine pure_ (i := 1) (N := some 116) (v := ?_) (a' := ?_) #[true, true, false, false, false, false, false, false, false, false, false, false, false, false, false, false, false, false, false] rfl rfl (any_of HT_.out (by kernel_rfl)) (fun _ _ _ h => h) (Or.inl ⟨by rfl, ?_⟩) ?_ ?_
                              rotate_left
                              ·intro w'
                               go_simp
                               with_reducible rfl
                              rotate_left
                              ·simp only [Act.put, List.setIfInBounds_toArray, List.set_cons_zero, List.set_cons_succ, i64_w, i32_w]
                               rfl
                              refine pure_ (i := 2) (N := some 117) (v := ?_) (a' := ?_) #[true, true, true, false, false, false, false, false, false, false, false, false, false, false, false, false, false, false, false] rfl rfl (any_of HT_.out (by kernel_rfl)) (fun _ _ _ h => h) (Or.inl ⟨by rfl, ?_⟩) ?_ ?_
                              rotate_left
                              ·intro w'
                               go_simp
                               with_reducible rfl
                              rotate_left
                              ·simp only [Act.put, List.setIfInBounds_toArray, List.set_cons_zero, List.set_cons_succ, i64_w, i32_w]
                               rfl
                              refine pure_ (i := 3) (N := some 118) (v := ?_) (a' := ?_) #[true, true, true, true, false, false, false, false, false, false, false, false, false, false, false, false, false, false, false] rfl rfl (any_of HT_.out (by kernel_rfl)) (fun _ _ _ h => h) (Or.inl ⟨by rfl, ?_⟩) ?_ ?_
                              rotate_left
                              ·intro w'
                               go_simp
                               with_reducible rfl
                              rotate_left
                              ·simp only [Act.put, List.setIfInBounds_toArray, List.set_cons_zero, List.set_cons_succ, i64_w, i32_w]
                               rfl
                              refine pure_ (i := 4) (N := some 119) (v := undef) (a' := ?_) #[true, true, true, true, true, false, false, false, false, false, false, false, false, false, false, false, false, false, false] rfl rfl (any_of HT_.out (by kernel_rfl)) (fun _ _ _ h => h) (Or.inr ⟨by rfl, rfl⟩) ?_ ?_
                              rotate_left
                              ·simp only [Act.put, List.setIfInBounds_toArray, List.set_cons_zero, List.set_cons_succ, i64_w, i32_w]
                               rfl
                              refine pure_ (i := 5) (N := some 120) (v := undef) (a' := ?_) #[true, true, true, true, true, true, false, false, false, false, false, false, false, false, false, false, false, false, false] rfl rfl (any_of HT_.out (by kernel_rfl)) (fun _ _ _ h => h) (Or.inr ⟨by rfl, rfl⟩) ?_ ?_
                              rotate_left
                              ·simp only [Act.put, List.setIfInBounds_toArray, List.set_cons_zero, List.set_cons_succ, i64_w, i32_w]
                               rfl
                              refine pure_ (i := 6) (N := some 121) (v := undef) (a' := ?_) #[true, true, true, true, true, true, true, false, false, false, false, false, false, false, false, false, false, false, false] rfl rfl (any_of HT_.out (by kernel_rfl)) (fun _ _ _ h => h) (Or.inr ⟨by rfl, rfl⟩) ?_ ?_
                              rotate_left
                              ·simp only [Act.put, List.setIfInBounds_toArray, List.set_cons_zero, List.set_cons_succ, i64_w, i32_w]
                               rfl
                              refine pure_ (i := 7) (N := some 122) (v := undef) (a' := ?_) #[true, true, true, true, true, true, true, true, false, false, false, false, false, false, false, false, false, false, false] rfl rfl (any_of HT_.out (by kernel_rfl)) (fun _ _ _ h => h) (Or.inr ⟨by rfl, rfl⟩) ?_ ?_
                              rotate_left
                              ·simp only [Act.put, List.setIfInBounds_toArray, List.set_cons_zero, List.set_cons_succ, i64_w, i32_w]
                               rfl
                              refine pure_ (i := 8) (N := some 123) (v := undef) (a' := ?_) #[true, true, true, true, true, true, true, true, true, false, false, false, false, false, false, false, false, false, false] rfl rfl (any_of HT_.out (by kernel_rfl)) (fun _ _ _ h => h) (Or.inr ⟨by rfl, rfl⟩) ?_ ?_
                              rotate_left
                              ·simp only [Act.put, List.setIfInBounds_toArray, List.set_cons_zero, List.set_cons_succ, i64_w, i32_w]
                               rfl
                              refine pure_ (i := 9) (N := some 124) (v := undef) (a' := ?_) #[true, true, true, true, true, true, true, true, true, true, false, false, false, false, false, false, false, false, false] rfl rfl (any_of HT_.out (by kernel_rfl)) (fun _ _ _ h => h) (Or.inr ⟨by rfl, rfl⟩) ?_ ?_
                              rotate_left
                              ·simp only [Act.put, List.setIfInBounds_toArray, List.set_cons_zero, List.set_cons_succ, i64_w, i32_w]
                               rfl
                              refine pure_ (i := 10) (N := some 125) (v := undef) (a' := ?_) #[true, true, true, true, true, true, true, true, true, true, true, false, false, false, false, false, false, false, false] rfl rfl (any_of HT_.out (by kernel_rfl)) (fun _ _ _ h => h) (Or.inr ⟨by rfl, rfl⟩) ?_ ?_
                              rotate_left
                              ·simp only [Act.put, List.setIfInBounds_toArray, List.set_cons_zero, List.set_cons_succ, i64_w, i32_w]
                               rfl
                              refine pure_ (i := 11) (N := some 126) (v := undef) (a' := ?_) #[true, true, true, true, true, true, true, true, true, true, true, true, false, false, false, false, false, false, false] rfl rfl (any_of HT_.out (by kernel_rfl)) (fun _ _ _ h => h) (Or.inr ⟨by rfl, rfl⟩) ?_ ?_
                              rotate_left
                              ·simp only [Act.put, List.setIfInBounds_toArray, List.set_cons_zero, List.set_cons_succ, i64_w, i32_w]
                               rfl
                              refine pure_ (i := 12) (N := some 127) (v := undef) (a' := ?_) #[true, true, true, true, true, true, true, true, true, true, true, true, true, false, false, false, false, false, false] rfl rfl (any_of HT_.out (by kernel_rfl)) (fun _ _ _ h => h) (Or.inr ⟨by rfl, rfl⟩) ?_ ?_
                              rotate_left
                              ·simp only [Act.put, List.setIfInBounds_toArray, List.set_cons_zero, List.set_cons_succ, i64_w, i32_w]
                               rfl
                              refine pure_ (i := 13) (N := some 128) (v := undef) (a' := ?_) #[true, true, true, true, true, true, true, true, true, true, true, true, true, true, false, false, false, false, false] rfl rfl (any_of HT_.out (by kernel_rfl)) (fun _ _ _ h => h) (Or.inr ⟨by rfl, rfl⟩) ?_ ?_
                              rotate_left
                              ·simp only [Act.put, List.setIfInBounds_toArray, List.set_cons_zero, List.set_cons_succ, i64_w, i32_w]
                               rfl
                              refine pure_ (i := 14) (N := some 129) (v := undef) (a' := ?_) #[true, true, true, true, true, true, true, true, true, true, true, true, true, true, true, false, false, false, false] rfl rfl (any_of HT_.out (by kernel_rfl)) (fun _ _ _ h => h) (Or.inr ⟨by rfl, rfl⟩) ?_ ?_
                              rotate_left
                              ·simp only [Act.put, List.setIfInBounds_toArray, List.set_cons_zero, List.set_cons_succ, i64_w, i32_w]
                               rfl
                              refine pure_ (i := 15) (N := some 130) (v := undef) (a' := ?_) #[true, true, true, true, true, true, true, true, true, true, true, true, true, true, true, true, false, false, false] rfl rfl (any_of HT_.out (by kernel_rfl)) (fun _ _ _ h => h) (Or.inr ⟨by rfl, rfl⟩) ?_ ?_
                              rotate_left
                              ·simp only [Act.put, List.setIfInBounds_toArray, List.set_cons_zero, List.set_cons_succ, i64_w, i32_w]
                               rfl
                              refine pure_ (i := 16) (N := some 131) (v := undef) (a' := ?_) #[true, true, true, true, true, true, true, true, true, true, true, true, true, true, true, true, true, false, false] rfl rfl (any_of HT_.out (by kernel_rfl)) (fun _ _ _ h => h) (Or.inr ⟨by rfl, rfl⟩) ?_ ?_
                              rotate_left
                              ·simp only [Act.put, List.setIfInBounds_toArray, List.set_cons_zero, List.set_cons_succ, i64_w, i32_w]
                               rfl
                              refine pure_ (i := 17) (N := some 132) (v := undef) (a' := ?_) #[true, true, true, true, true, true, true, true, true, true, true, true, true, true, true, true, true, true, false] rfl rfl (any_of HT_.out (by kernel_rfl)) (fun _ _ _ h => h) (Or.inr ⟨by rfl, rfl⟩) ?_ ?_
                              rotate_left
                              ·simp only [Act.put, List.setIfInBounds_toArray, List.set_cons_zero, List.set_cons_succ, i64_w, i32_w]
                               rfl
                              refine pure_ (i := 18) (N := some 133) (v := ?_) (a' := ?_) #[true, true, true, true, true, true, true, true, true, true, true, true, true, true, true, true, true, true, true] rfl rfl (any_of HT_.out (by kernel_rfl)) (fun _ _ _ h => h) (Or.inl ⟨by rfl, ?_⟩) ?_ ?_
                              rotate_left
                              ·intro w'
                               go_simp
                               with_reducible rfl
                              rotate_left
                              ·simp only [Act.put, List.setIfInBounds_toArray, List.set_cons_zero, List.set_cons_succ, i64_w, i32_w]
                               rfl
                              refine done_ (done_of HT_.out (by kernel_rfl)) ?_
                              try go_wp2
                              go_meet
                              case rel => exact ⟨_, (true), (by first | rfl | (simp; done) | (simp [*]; done)), H', ⟨by have := HK1.out; have := HJ14.out; have := HK3.out; have := HJ22.out; have := HK5.out; have := HJ39.out; first | omega | exact Nat.le_refl _⟩, ⟨by (with_reducible repeat (first | apply Kd.R_alloc | apply Kd.R_drewN | apply Kd.R_drew)); exact Kd.R_mono HO_5.out (fun _ hk => trivial)⟩, ⟨by (with_reducible repeat (first | apply Kd.R_alloc | apply Kd.R_drewN | apply Kd.R_drew)); exact HO_7.out⟩, ⟨by (with_reducible repeat (first | refine blk_drewN ?_ _ | refine blk_drew ?_ | refine blk_alloc ?_ _)); exact BK101.out⟩, ⟨by repeat (first | (with_reducible first | exact HB.out | apply below_alloc | apply pw_below_drewN | apply below_drew1 | refine below_set ?_ GE101.out) | exact HB.out)⟩⟩
                             ·rw [if_neg c55] at H
                              have c55b0 : decide ((t113.length : Int) < (t128.length : Int)) = false := decide_eq_false c55
                              have c55b1 : decide (t113.length < t128.length) = false := decide_eq_false (fun h => c55 (Int.ofNat_lt.mpr h))
                              clear c55
                              (first | rw [c55b0] | (simp only [i64_w, i32_w]; rw [c55b0]) | skip)
                              by_cases c57 : (t128.length : Int) = (t113.length : Int)
                              ·rw [if_pos c57] at H
                               have c57b0 : ((t128.length : Int) == (t113.length : Int)) = true := beq_iff_eq.mpr c57
                               have c57b1 : ((t128.length : Int) != (t113.length : Int)) = false := bne_eq_false_iff_eq.mpr c57
                               have c57b2 : (t128.length == t113.length) = true := by first | simpa using c57 | (simp at c57 ⊢; omega)
                               clear c57
                               by_cases c58 : 0 ≤ x8_3
                               ·rw [if_pos c58] at H
                                have c58b0 : decide (0 ≤ x8_3) = true := decide_eq_true c58
                                clear c58
                                by_cases c59 : x8_3 < (t105.length : Int)
                                ·rw [if_pos c59] at H
                                 have c59b0 : decide (x8_3 < (t105.length : Int)) = true := decide_eq_true c59
                                 clear c59
                                 have H' := Aside0.mk H
                                 clear H
                                 try go_wp2
                                 have n0_ := Aside0.mk (Kd.R_drew HO_5.out)
                                 have n1_ := Aside0.mk (Kd.R_drew HO_7.out)
                                 have n2_ := Aside0.mk (Kd.R_drew HO130.out)
                                 have n3_ := Aside0.mk (blk_drew BK101.out)
                                 have n4_ := Aside0.mk (below_drew1 HB.out)
                                 clear HO_5
                                 clear HO_7
                                 clear HO130
                                 clear BK101
                                 clear HB
                                 have HO_5 := n0_
                                 have HO_7 := n1_
                                 have HO130 := n2_
                                 have BK101 := n3_
                                 have HB := n4_
                                 clear n0_ n1_ n2_ n3_ n4_
                                 have p131 : 0 ≤ (x10_5 : Int) := of_decide_eq_true (by first | (with_reducible assumption) | assumption)
                                 have q131 : x10_5 < (t105.length : Int) := of_decide_eq_true (by first | (with_reducible assumption) | assumption)
                                 obtain ⟨ad131, e131, hx131_0⟩ := Kd.at_int (Kd.R_reads' HO_5.out).2.2 x10_5 p131 q131
                                 obtain rfl : ad111 = ad131 := (by injection e131)
                                 replace p131 := eq_true p131
                                 replace q131 := eq_true q131
                                 have p132 : 0 ≤ (x8_3 : Int) := of_decide_eq_true (by first | (with_reducible assumption) | assumption)
                                 have q132 : x8_3 < (t105.length : Int) := of_decide_eq_true (by first | (with_reducible assumption) | assumption)
                                 obtain ⟨ad132, e132, hx132_0⟩ := Kd.at_int (Kd.R_reads' HO_5.out).2.2 x8_3 p132 q132
                                 obtain rfl : ad111 = ad132 := (by injection e132)
                                 replace p132 := eq_true p132
                                 replace q132 := eq_true q132
                                 refine start_ (n := 19) (S := fun w' => w'.cell? (ad111.add (x10_5).toNat) = some (.int .i64 (rd t105 x10_5)) ∧ w'.cell? (ad111.add (x8_3).toNat) = some (.int .i64 (rd t105 x8_3))) (ds := []) #[false, false, false, false, false, false, false, false, false, false, false, false, false, false, false, false, false, false, false] (by kernel_rfl) rfl rfl ⟨hx131_0, hx132_0⟩ (fun hHeld => ?_); refine with_tabW lambrequinlaw13_PlanGreedy.tab25 lambrequinlaw13_PlanGreedy.bits25 (fun HT_ HW_ => ?_)
                                 generalize w53.drew = w60 at HO_5 HO_7 HO130 BK101 HB hx131_0 hx132_0 hHeld ⊢
                                 refine pure_ (i := 0) (N := some 115) (v := ?_) (a' := ?_) #[true, false, false, false, false, false, false, false, false, false, false, false, false, false, false, false, false, false, false] rfl rfl (any_of HT_.out (by kernel_rfl)) (fun _ _ _ h => h) (Or.inl ⟨by rfl, ?_⟩) ?_ ?_
                                 rotate_left
                                 ·intro w'
                                  go_simp
                                  with_reducible rfl
                                 rotate_left
                                 ·simp only [Act.put, List.setIfInBounds_toArray, List.set_cons_zero, List.set_cons_succ, i64_w, i32_w]
                                  rfl
                                 refine pure_ (i := 1) (N := some 116) (v := ?_) (a' := ?_) #[true, true, false, false, false, false, false, false, false, false, false, false, false, false, false, false, false, false, false] rfl rfl (any_of HT_.out (by kernel_rfl)) (fun _ _ _ h => h) (Or.inl ⟨by rfl, ?_⟩) ?_ ?_
                                 rotate_left
                                 ·intro w'
                                  go_simp
                                  with_reducible rfl
                                 rotate_left
                                 ·simp only [Act.put, List.setIfInBounds_toArray, List.set_cons_zero, List.set_cons_succ, i64_w, i32_w]
                                  rfl
                                 refine pure_ (i := 2) (N := some 117) (v := ?_) (a' := ?_) #[true, true, true, false, false, false, false, false, false, false, false, false, false, false, false, false, false, false, false] rfl rfl (any_of HT_.out (by kernel_rfl)) (fun _ _ _ h => h) (Or.inl ⟨by rfl, ?_⟩) ?_ ?_
                                 rotate_left
                                 ·intro w'
                                  go_simp
                                  with_reducible rfl
                                 rotate_left
                                 ·simp only [Act.put, List.setIfInBounds_toArray, List.set_cons_zero, List.set_cons_succ, i64_w, i32_w]
                                  rfl
                                 refine pure_ (i := 3) (N := some 118) (v := ?_) (a' := ?_) #[true, true, true, true, false, false, false, false, false, false, false, false, false, false, false, false, false, false, false] rfl rfl (any_of HT_.out (by kernel_rfl)) (fun _ _ _ h => h) (Or.inl ⟨by rfl, ?_⟩) ?_ ?_
                                 rotate_left
                                 ·intro w'
                                  go_simp
                                  with_reducible rfl
                                 rotate_left
                                 ·simp only [Act.put, List.setIfInBounds_toArray, List.set_cons_zero, List.set_cons_succ, i64_w, i32_w]
                                  rfl
                                 refine pure_ (i := 4) (N := some 119) (v := ?_) (a' := ?_) #[true, true, true, true, true, false, false, false, false, false, false, false, false, false, false, false, false, false, false] rfl rfl (any_of HT_.out (by kernel_rfl)) (fun _ _ _ h => h) (Or.inl ⟨by rfl, ?_⟩) ?_ ?_
                                 rotate_left
                                 ·intro w'
                                  go_simp
                                  with_reducible rfl
                                 rotate_left
                                 ·simp only [Act.put, List.setIfInBounds_toArray, List.set_cons_zero, List.set_cons_succ, i64_w, i32_w]
                                  rfl
                                 refine pure_ (i := 5) (N := some 120) (v := ?_) (a' := ?_) #[true, true, true, true, true, true, false, false, false, false, false, false, false, false, false, false, false, false, false] rfl rfl (any_of HT_.out (by kernel_rfl)) (fun _ _ _ h => h) (Or.inl ⟨by rfl, ?_⟩) ?_ ?_
                                 rotate_left
                                 ·intro w'
                                  go_simp
                                  with_reducible rfl
                                 rotate_left
                                 ·simp only [Act.put, List.setIfInBounds_toArray, List.set_cons_zero, List.set_cons_succ, i64_w, i32_w]
                                  rfl
                                 refine pure_ (i := 6) (N := some 121) (v := ?_) (a' := ?_) #[true, true, true, true, true, true, true, false, false, false, false, false, false, false, false, false, false, false, false] rfl rfl (any_of HT_.out (by kernel_rfl)) (fun _ _ _ h => h) (Or.inl ⟨by rfl, ?_⟩) ?_ ?_
                                 rotate_left
                                 ·intro w'
                                  go_simp
                                  with_reducible rfl
                                 rotate_left
                                 ·simp only [Act.put, List.setIfInBounds_toArray, List.set_cons_zero, List.set_cons_succ, i64_w, i32_w]
                                  rfl
                                 refine pure_ (i := 7) (N := some 122) (v := ?_) (a' := ?_) #[true, true, true, true, true, true, true, true, false, false, false, false, false, false, false, false, false, false, false] rfl rfl (any_of HT_.out (by kernel_rfl)) (fun _ _ _ h => h) (Or.inl ⟨by rfl, ?_⟩) ?_ ?_
                                 rotate_left
                                 ·intro w'
                                  go_simp
                                  with_reducible rfl
                                 rotate_left
                                 ·simp only [Act.put, List.setIfInBounds_toArray, List.set_cons_zero, List.set_cons_succ, i64_w, i32_w]
                                  rfl
                                 refine pure_ (i := 8) (N := some 123) (v := ?_) (a' := ?_) #[true, true, true, true, true, true, true, true, true, false, false, false, false, false, false, false, false, false, false] rfl rfl (any_of HT_.out (by kernel_rfl)) (fun _ _ _ h => h) (Or.inl ⟨by rfl, ?_⟩) ?_ ?_
                                 rotate_left
                                 ·intro w'
                                  go_simp
                                  with_reducible rfl
                                 rotate_left
                                 ·simp only [Act.put, List.setIfInBounds_toArray, List.set_cons_zero, List.set_cons_succ, i64_w, i32_w]
                                  rfl
                                 refine pure_ (i := 9) (N := some 124) (v := ?_) (a' := ?_) #[true, true, true, true, true, true, true, true, true, true, false, false, false, false, false, false, false, false, false] rfl rfl (any_of HT_.out (by kernel_rfl)) (fun _ _ _ h => h) (Or.inl ⟨by rfl, ?_⟩) ?_ ?_
                                 rotate_left
                                 ·intro w'
                                  go_simp
                                  with_reducible rfl
                                 rotate_left
                                 ·simp only [Act.put, List.setIfInBounds_toArray, List.set_cons_zero, List.set_cons_succ, i64_w, i32_w]
                                  rfl
                                 refine pure_ (i := 10) (N := some 125) (v := ?_) (a' := ?_) #[true, true, true, true, true, true, true, true, true, true, true, false, false, false, false, false, false, false, false] rfl rfl (any_of HT_.out (by kernel_rfl)) (fun _ _ _ h => h) (Or.inl ⟨by rfl, ?_⟩) ?_ ?_
                                 rotate_left
                                 ·intro w'
                                  go_simp
                                  with_reducible rfl
                                 rotate_left
                                 ·simp only [Act.put, List.setIfInBounds_toArray, List.set_cons_zero, List.set_cons_succ, i64_w, i32_w]
                                  rfl
                                 refine pure_ (i := 12) (N := some 127) (v := ?_) (a' := ?_) #[true, true, true, true, true, true, true, true, true, true, true, false, true, false, false, false, false, false, false] rfl rfl (any_of HT_.out (by kernel_rfl)) (fun _ _ _ h => h) (Or.inl ⟨by rfl, ?_⟩) ?_ ?_
                                 rotate_left
                                 ·intro w'
                                  go_simp
                                  with_reducible rfl
                                 rotate_left
                                 ·simp only [Act.put, List.setIfInBounds_toArray, List.set_cons_zero, List.set_cons_succ, i64_w, i32_w]
                                  rfl
                                 refine pure_ (i := 13) (N := some 128) (v := ?_) (a' := ?_) #[true, true, true, true, true, true, true, true, true, true, true, false, true, true, false, false, false, false, false] rfl rfl (any_of HT_.out (by kernel_rfl)) (fun _ _ _ h => h) (Or.inl ⟨by rfl, ?_⟩) ?_ ?_
                                 rotate_left
                                 ·intro w'
                                  go_simp
                                  with_reducible rfl
                                 rotate_left
                                 ·simp only [Act.put, List.setIfInBounds_toArray, List.set_cons_zero, List.set_cons_succ, i64_w, i32_w]
                                  rfl
                                 refine pure_ (i := 14) (N := some 129) (v := ?_) (a' := ?_) #[true, true, true, true, true, true, true, true, true, true, true, false, true, true, true, false, false, false, false] rfl rfl (any_of HT_.out (by kernel_rfl)) (fun _ _ _ h => h) (Or.inl ⟨by rfl, ?_⟩) ?_ ?_
                                 rotate_left
                                 ·intro w'
                                  go_simp
                                  with_reducible rfl
                                 rotate_left
                                 ·simp only [Act.put, List.setIfInBounds_toArray, List.set_cons_zero, List.set_cons_succ, i64_w, i32_w]
                                  rfl
                                 refine take_ (i := 11) (N := some 126) (v := ?_) (a' := ?_) #[true, true, true, true, true, true, true, true, true, true, true, true, true, true, true, false, false, false, false] rfl rfl (take_ofW HT_.out HW_.out (by kernel_rfl)) (fun _ _ _ h => h) (Or.inl ⟨by rfl, ?_⟩) hHeld ?_ ?_
                                 rotate_left
                                 ·rintro w' ⟨s0, s1⟩
                                  go_simp
                                  with_reducible rfl
                                 rotate_left
                                 ·simp only [Act.put, List.setIfInBounds_toArray, List.set_cons_zero, List.set_cons_succ, i64_w, i32_w]
                                  rfl
                                 refine take_ (i := 15) (N := some 130) (v := ?_) (a' := ?_) #[true, true, true, true, true, true, true, true, true, true, true, true, true, true, true, true, false, false, false] rfl rfl (take_ofW HT_.out HW_.out (by kernel_rfl)) (fun _ _ _ h => h) (Or.inl ⟨by rfl, ?_⟩) hHeld ?_ ?_
                                 rotate_left
                                 ·rintro w' ⟨s0, s1⟩
                                  go_simp
                                  with_reducible rfl
                                 rotate_left
                                 ·simp only [Act.put, List.setIfInBounds_toArray, List.set_cons_zero, List.set_cons_succ, i64_w, i32_w]
                                  rfl
                                 refine pure_ (i := 16) (N := some 131) (v := ?_) (a' := ?_) #[true, true, true, true, true, true, true, true, true, true, true, true, true, true, true, true, true, false, false] rfl rfl (any_of HT_.out (by kernel_rfl)) (fun _ _ _ h => h) (Or.inl ⟨by rfl, ?_⟩) ?_ ?_
                                 rotate_left
                                 ·intro w'
                                  go_simp
                                  with_reducible rfl
                                 rotate_left
                                 ·simp only [Act.put, List.setIfInBounds_toArray, List.set_cons_zero, List.set_cons_succ, i64_w, i32_w]
                                  rfl
                                 refine pure_ (i := 17) (N := some 132) (v := ?_) (a' := ?_) #[true, true, true, true, true, true, true, true, true, true, true, true, true, true, true, true, true, true, false] rfl rfl (any_of HT_.out (by kernel_rfl)) (fun _ _ _ h => h) (Or.inl ⟨by rfl, ?_⟩) ?_ ?_
                                 rotate_left
                                 ·intro w'
                                  go_simp
                                  with_reducible rfl
                                 rotate_left
                                 ·simp only [Act.put, List.setIfInBounds_toArray, List.set_cons_zero, List.set_cons_succ, i64_w, i32_w]
                                  rfl
                                 refine pure_ (i := 18) (N := some 133) (v := ?_) (a' := ?_) #[true, true, true, true, true, true, true, true, true, true, true, true, true, true, true, true, true, true, true] rfl rfl (any_of HT_.out (by kernel_rfl)) (fun _ _ _ h => h) (Or.inl ⟨by rfl, ?_⟩) ?_ ?_
                                 rotate_left
                                 ·intro w'
                                  go_simp
                                  with_reducible rfl
                                 rotate_left
                                 ·simp only [Act.put, List.setIfInBounds_toArray, List.set_cons_zero, List.set_cons_succ, i64_w, i32_w]
                                  rfl
                                 refine done_ (done_of HT_.out (by kernel_rfl)) ?_
                                 try go_wp2
                                 go_meet
                                 case rel => exact ⟨_, (decide ((rd t105 x10_5) < (rd t105 x8_3))), (by first | rfl | (simp; done) | (simp [*]; done)), H', ⟨by have := HK1.out; have := HJ14.out; have := HK3.out; have := HJ22.out; have := HK5.out; have := HJ39.out; first | omega | exact Nat.le_refl _⟩, ⟨by (with_reducible repeat (first | apply Kd.R_alloc | apply Kd.R_drewN | apply Kd.R_drew)); exact Kd.R_mono HO_5.out (fun _ hk => trivial)⟩, ⟨by (with_reducible repeat (first | apply Kd.R_alloc | apply Kd.R_drewN | apply Kd.R_drew)); exact HO_7.out⟩, ⟨by (with_reducible repeat (first | refine blk_drewN ?_ _ | refine blk_drew ?_ | refine blk_alloc ?_ _)); exact BK101.out⟩, ⟨by repeat (first | (with_reducible first | exact HB.out | apply below_alloc | apply pw_below_drewN | apply below_drew1 | refine below_set ?_ GE101.out) | exact HB.out)⟩⟩
                                ·rw [if_neg c59] at H
                                 exact absurd H (by simp)
                               ·rw [if_neg c58] at H
                                exact absurd H (by simp)
                              ·rw [if_neg c57] at H
                               have c57b0 : ((t128.length : Int) == (t113.length : Int)) = false := beq_eq_false_iff_ne.mpr c57
                               have c57b1 : ((t128.length : Int) != (t113.length : Int)) = true := bne_iff_ne.mpr c57
                               have c57b2 : (t128.length == t113.length) = false := by first | simpa using c57 | (simp at c57 ⊢; omega)
                               have H' := Aside0.mk H
                               clear H
                               try go_wp2
                               have n0_ := Aside0.mk (Kd.R_drew HO_5.out)
                               have n1_ := Aside0.mk (Kd.R_drew HO_7.out)
                               have n2_ := Aside0.mk (Kd.R_drew HO130.out)
                               have n3_ := Aside0.mk (blk_drew BK101.out)
                               have n4_ := Aside0.mk (below_drew1 HB.out)
                               clear HO_5
                               clear HO_7
                               clear HO130
                               clear BK101
                               clear HB
                               have HO_5 := n0_
                               have HO_7 := n1_
                               have HO130 := n2_
                               have BK101 := n3_
                               have HB := n4_
                               clear n0_ n1_ n2_ n3_ n4_
                               refine start_ (n := 19) (S := fun w' => True) (ds := []) #[false, false, false, false, false, false, false, false, false, false, false, false, false, false, false, false, false, false, false] (by kernel_rfl) rfl rfl trivial (fun hHeld => ?_); refine with_tabW lambrequinlaw13_PlanGreedy.tab25 lambrequinlaw13_PlanGreedy.bits25 (fun HT_ HW_ => ?_)
                               generalize w53.drew = w61 at HO_5 HO_7 HO130 BK101 HB hHeld ⊢
                               refine pure_ (i := 0) (N := some 115) (v := ?_) (a' := ?_) #[true, false, false, false, false, false, false, false, false, false, false, false, false, false, false, false, false, false, false] rfl rfl (any_of HT_.out (by kernel_rfl)) (fun _ _ _ h => h) (Or.inl ⟨by rfl, ?_⟩) ?_ ?_
                               rotate_left
                               ·intro w'
                                go_simp
                                with_reducible rfl
                               rotate_left
                               ·simp only [Act.put, List.setIfInBounds_toArray, List.set_cons_zero, List.set_cons_succ, i64_w, i32_w]
                                rfl
                               refine pure_ (i := 1) (N := some 116) (v := ?_) (a' := ?_) #[true, true, false, false, false, false, false, false, false, false, false, false, false, false, false, false, false, false, false] rfl rfl (any_of HT_.out (by kernel_rfl)) (fun _ _ _ h => h) (Or.inl ⟨by rfl, ?_⟩) ?_ ?_
                               rotate_left
                               ·intro w'
                                go_simp
                                with_reducible rfl
                               rotate_left
                               ·simp only [Act.put, List.setIfInBounds_toArray, List.set_cons_zero, List.set_cons_succ, i64_w, i32_w]
                                rfl
                               refine pure_ (i := 2) (N := some 117) (v := ?_) (a' := ?_) #[true, true, true, false, false, false, false, false, false, false, false, false, false, false, false, false, false, false, false] rfl rfl (any_of HT_.out (by kernel_rfl)) (fun _ _ _ h => h) (Or.inl ⟨by rfl, ?_⟩) ?_ ?_
                               rotate_left
                               ·intro w'
                                go_simp
                                with_reducible rfl
                               rotate_left
                               ·simp only [Act.put, List.setIfInBounds_toArray, List.set_cons_zero, List.set_cons_succ, i64_w, i32_w]
                                rfl
                               refine pure_ (i := 3) (N := some 118) (v := ?_) (a' := ?_) #[true, true, true, true, false, false, false, false, false, false, false, false, false, false, false, false, false, false, false] rfl rfl (any_of HT_.out (by kernel_rfl)) (fun _ _ _ h => h) (Or.inl ⟨by rfl, ?_⟩) ?_ ?_
                               rotate_left
                               ·intro w'
                                go_simp
                                with_reducible rfl
                               rotate_left
                               ·simp only [Act.put, List.setIfInBounds_toArray, List.set_cons_zero, List.set_cons_succ, i64_w, i32_w]
                                rfl
                               refine pure_ (i := 4) (N := some 119) (v := ?_) (a' := ?_) #[true, true, true, true, true, false, false, false, false, false, false, false, false, false, false, false, false, false, false] rfl rfl (any_of HT_.out (by kernel_rfl)) (fun _ _ _ h => h) (Or.inl ⟨by rfl, ?_⟩) ?_ ?_
                               rotate_left
                               ·intro w'
                                go_simp
                                with_reducible rfl
                               rotate_left
                               ·simp only [Act.put, List.setIfInBounds_toArray, List.set_cons_zero, List.set_cons_succ, i64_w, i32_w]
                                rfl
                               refine pure_ (i := 5) (N := some 120) (v := ?_) (a' := ?_) #[true, true, true, true, true, true, false, false, false, false, false, false, false, false, false, false, false, false, false] rfl rfl (any_of HT_.out (by kernel_rfl)) (fun _ _ _ h => h) (Or.inl ⟨by rfl, ?_⟩) ?_ ?_
                               rotate_left
                               ·intro w'
                                go_simp
                                with_reducible rfl
                               rotate_left
                               ·simp only [Act.put, List.setIfInBounds_toArray, List.set_cons_zero, List.set_cons_succ, i64_w, i32_w]
                                rfl
                               refine pure_ (i := 6) (N := some 121) (v := ?_) (a' := ?_) #[true, true, true, true, true, true, true, false, false, false, false, false, false, false, false, false, false, false, false] rfl rfl (any_of HT_.out (by kernel_rfl)) (fun _ _ _ h => h) (Or.inl ⟨by rfl, ?_⟩) ?_ ?_
                               rotate_left
                               ·intro w'
                                go_simp
                                with_reducible rfl
                               rotate_left
                               ·simp only [Act.put, List.setIfInBounds_toArray, List.set_cons_zero, List.set_cons_succ, i64_w, i32_w]
                                rfl
                               refine pure_ (i := 7) (N := some 122) (v := ?_) (a' := ?_) #[true, true, true, true, true, true, true, true, false, false, false, false, false, false, false, false, false, false, false] rfl rfl (any_of HT_.out (by kernel_rfl)) (fun _ _ _ h => h) (Or.inl ⟨by rfl, ?_⟩) ?_ ?_
                               rotate_left
                               ·intro w'
                                go_simp
                                with_reducible rfl
                               rotate_left
                               ·simp only [Act.put, List.setIfInBounds_toArray, List.set_cons_zero, List.set_cons_succ, i64_w, i32_w]
                                rfl
                               refine pure_ (i := 8) (N := some 123) (v := undef) (a' := ?_) #[true, true, true, true, true, true, true, true, true, false, false, false, false, false, false, false, false, false, false] rfl rfl (any_of HT_.out (by kernel_rfl)) (fun _ _ _ h => h) (Or.inr ⟨by rfl, rfl⟩) ?_ ?_
                               rotate_left
                               ·simp only [Act.put, List.setIfInBounds_toArray, List.set_cons_zero, List.set_cons_succ, i64_w, i32_w]
                                rfl
                               refine pure_ (i := 9) (N := some 124) (v := undef) (a' := ?_) #[true, true, true, true, true, true, true, true, true, true, false, false, false, false, false, false, false, false, false] rfl rfl (any_of HT_.out (by kernel_rfl)) (fun _ _ _ h => h) (Or.inr ⟨by rfl, rfl⟩) ?_ ?_
                               rotate_left
                               ·simp only [Act.put, List.setIfInBounds_toArray, List.set_cons_zero, List.set_cons_succ, i64_w, i32_w]
                                rfl
                               refine pure_ (i := 10) (N := some 125) (v := undef) (a' := ?_) #[true, true, true, true, true, true, true, true, true, true, true, false, false, false, false, false, false, false, false] rfl rfl (any_of HT_.out (by kernel_rfl)) (fun _ _ _ h => h) (Or.inr ⟨by rfl, rfl⟩) ?_ ?_
                               rotate_left
                               ·simp only [Act.put, List.setIfInBounds_toArray, List.set_cons_zero, List.set_cons_succ, i64_w, i32_w]
                                rfl
                               refine pure_ (i := 11) (N := some 126) (v := undef) (a' := ?_) #[true, true, true, true, true, true, true, true, true, true, true, true, false, false, false, false, false, false, false] rfl rfl (any_of HT_.out (by kernel_rfl)) (fun _ _ _ h => h) (Or.inr ⟨by rfl, rfl⟩) ?_ ?_
                               rotate_left
                               ·simp only [Act.put, List.setIfInBounds_toArray, List.set_cons_zero, List.set_cons_succ, i64_w, i32_w]
                                rfl
                               refine pure_ (i := 12) (N := some 127) (v := undef) (a' := ?_) #[true, true, true, true, true, true, true, true, true, true, true, true, true, false, false, false, false, false, false] rfl rfl (any_of HT_.out (by kernel_rfl)) (fun _ _ _ h => h) (Or.inr ⟨by rfl, rfl⟩) ?_ ?_
                               rotate_left
                               ·simp only [Act.put, List.setIfInBounds_toArray, List.set_cons_zero, List.set_cons_succ, i64_w, i32_w]
                                rfl
                               refine pure_ (i := 13) (N := some 128) (v := undef) (a' := ?_) #[true, true, true, true, true, true, true, true, true, true, true, true, true, true, false, false, false, false, false] rfl rfl (any_of HT_.out (by kernel_rfl)) (fun _ _ _ h => h) (Or.inr ⟨by rfl, rfl⟩) ?_ ?_
                               rotate_left
                               ·simp only [Act.put, List.setIfInBounds_toArray, List.set_cons_zero, List.set_cons_succ, i64_w, i32_w]
                                rfl
                               refine pure_ (i := 14) (N := some 129) (v := undef) (a' := ?_) #[true, true, true, true, true, true, true, true, true, true, true, true, true, true, true, false, false, false, false] rfl rfl (any_of HT_.out (by kernel_rfl)) (fun _ _ _ h => h) (Or.inr ⟨by rfl, rfl⟩) ?_ ?_
                               rotate_left
                               ·simp only [Act.put, List.setIfInBounds_toArray, List.set_cons_zero, List.set_cons_succ, i64_w, i32_w]
                                rfl
                               refine pure_ (i := 15) (N := some 130) (v := undef) (a' := ?_) #[true, true, true, true, true, true, true, true, true, true, true, true, true, true, true, true, false, false, false] rfl rfl (any_of HT_.out (by kernel_rfl)) (fun _ _ _ h => h) (Or.inr ⟨by rfl, rfl⟩) ?_ ?_
                               rotate_left
                               ·simp only [Act.put, List.setIfInBounds_toArray, List.set_cons_zero, List.set_cons_succ, i64_w, i32_w]
                                rfl
                               refine pure_ (i := 16) (N := some 131) (v := undef) (a' := ?_) #[true, true, true, true, true, true, true, true, true, true, true, true, true, true, true, true, true, false, false] rfl rfl (any_of HT_.out (by kernel_rfl)) (fun _ _ _ h => h) (Or.inr ⟨by rfl, rfl⟩) ?_ ?_
                               rotate_left
                               ·simp only [Act.put, List.setIfInBounds_toArray, List.set_cons_zero, List.set_cons_succ, i64_w, i32_w]
                                rfl
                               refine pure_ (i := 17) (N := some 132) (v := ?_) (a' := ?_) #[true, true, true, true, true, true, true, true, true, true, true, true, true, true, true, true, true, true, false] rfl rfl (any_of HT_.out (by kernel_rfl)) (fun _ _ _ h => h) (Or.inl ⟨by rfl, ?_⟩) ?_ ?_
                               rotate_left
                               ·intro w'
                                go_simp
                                with_reducible rfl
                               rotate_left
                               ·simp only [Act.put, List.setIfInBounds_toArray, List.set_cons_zero, List.set_cons_succ, i64_w, i32_w]
                                rfl
                               refine pure_ (i := 18) (N := some 133) (v := ?_) (a' := ?_) #[true, true, true, true, true, true, true, true, true, true, true, true, true, true, true, true, true, true, true] rfl rfl (any_of HT_.out (by kernel_rfl)) (fun _ _ _ h => h) (Or.inl ⟨by rfl, ?_⟩) ?_ ?_
                               rotate_left
                               ·intro w'
                                go_simp
                                with_reducible rfl
                               rotate_left
                               ·simp only [Act.put, List.setIfInBounds_toArray, List.set_cons_zero, List.set_cons_succ, i64_w, i32_w]
                                rfl
                               refine done_ (done_of HT_.out (by kernel_rfl)) ?_
                               try go_wp2
                               go_meet
                               case rel => exact ⟨_, (false), (by first | rfl | (simp; done) | (simp [*]; done)), H', ⟨by have := HK1.out; have := HJ14.out; have := HK3.out; have := HJ22.out; have := HK5.out; have := HJ39.out; first | omega | exact Nat.le_refl _⟩, ⟨by (with_reducible repeat (first | apply Kd.R_alloc | apply Kd.R_drewN | apply Kd.R_drew)); exact Kd.R_mono HO_5.out (fun _ hk => trivial)⟩, ⟨by (with_reducible repeat (first | apply Kd.R_alloc | apply Kd.R_drewN | apply Kd.R_drew)); exact HO_7.out⟩, ⟨by (with_reducible repeat (first | refine blk_drewN ?_ _ | refine blk_drew ?_ | refine blk_alloc ?_ _)); exact BK101.out⟩, ⟨by repeat (first | (with_reducible first | exact HB.out | apply below_alloc | apply pw_below_drewN | apply below_drew1 | refine below_set ?_ GE101.out) | exact HB.out)⟩⟩
                            case rest =>
                             clear HC51
                             try clear c1
                             try clear p1
                             try clear q1
                             try clear hx1
                             try clear c2
                             try clear p2
                             try clear c5
                             try clear c12
                             try clear p13
                             try clear q13
                             try clear hx13
                             try clear c20
                             try clear c55
                             try clear c55b0
                             try clear c55b1
                             try clear c57
                             try clear c57b0
                             try clear c57b1
                             try clear c57b2
                             try clear c58
                             try clear c58b0
                             try clear c59
                             try clear c59b0
                             try clear hx131_0
                             try clear hx132_0
                             try clear p131
                             try clear p132
                             try clear q131
                             try clear q132
                             obtain ⟨kq, x133_50, rfl, HA, HJ50, HO_5, HO_7, BK101, HB⟩ := hcut
                             cases kq with
                             | zero => exact absurd HA.out (by simp [lambrequinlaw13_PlanGreedy.j6])
                             | succ kj50 =>
                              have H := HA.out
                              clear HA
                              simp only [lambrequinlaw13_PlanGreedy.j6] at H
                              by_cases c62 : x133_50 = true
                              ·subst c62
                               have H1 : (some false) = some r := by rw [if_pos rfl] at H; exact H
                               clear H
                               have H := H1
                               clear H1
                               obtain rfl := Option.some.inj H
                               go_wp2
                               go_ret
                               exact ⟨by first | rfl | (simp [errW_none, errW_some] <;> rfl) | (simp [*, errW_none, errW_some] <;> rfl), by repeat (first | (with_reducible first | exact HB.out | apply below_alloc | apply pw_below_drewN | apply below_drew1 | refine below_set ?_ GE101.out) | exact HB.out)⟩
                              ·replace c62 := Bool.eq_false_iff.mpr c62
                               subst c62
                               have H1 : (lambrequinlaw13_PlanGreedy.l2 kj50 t102 t105 x7_3 x8_3 (t113.length : Int) (wrap64 (x10_5 + 1)) a0_0 l0_1 l0_2) = some r := by rw [if_neg (show ¬ (false = true) by decide)] at H; exact H
                               clear H
                               have H := H1
                               clear H1
                               have H' := Aside0.mk H
                               clear H
                               go_wp2
                               go_roundg kj50
                               case measure => have := HK1.out; have := HJ14.out; have := HK3.out; have := HJ22.out; have := HK5.out; have := HJ39.out; have := HJ50.out; omega
                               case rel => exact ⟨(wrap64 (x10_5 + 1)), (by first | rfl | (simp; done) | (simp [*]; done)), H', ⟨by have := HK1.out; have := HJ14.out; have := HK3.out; have := HJ22.out; have := HK5.out; have := HJ39.out; have := HJ50.out; omega⟩, ⟨by (with_reducible repeat (first | apply Kd.R_alloc | apply Kd.R_drewN | apply Kd.R_drew)); exact HO_5.out⟩, ⟨by (with_reducible repeat (first | apply Kd.R_alloc | apply Kd.R_drewN | apply Kd.R_drew)); exact HO_7.out⟩, ⟨by (with_reducible repeat (first | refine blk_drewN ?_ _ | refine blk_drew ?_ | refine blk_alloc ?_ _)); exact BK101.out⟩, ⟨by repeat (first | (with_reducible first | exact HB.out | apply below_alloc | apply pw_below_drewN | apply below_drew1 | refine below_set ?_ GE101.out) | exact HB.out)⟩⟩
                           ·rw [if_neg c49] at H
                            exact absurd H (by simp)
                          ·rw [if_neg c48] at H
                           exact absurd H (by simp)
                         ·rw [if_neg c47] at H
                          exact absurd H (by simp)
                        ·rw [if_neg c46] at H
                         exact absurd H (by simp)
                    ·rw [if_neg c39] at H
                     have c39b0 : decide (x10_5 < (t105.length : Int)) = false := decide_eq_false c39
                     clear c39
                     by_cases c63 : 0 ≤ x8_3
                     ·rw [if_pos c63] at H
                      have c63b0 : decide (0 ≤ x8_3) = true := decide_eq_true c63
                      clear c63
                      by_cases c64 : x8_3 < (t105.length : Int)
                      ·rw [if_pos c64] at H
                       have c64b0 : decide (x8_3 < (t105.length : Int)) = true := decide_eq_true c64
                       clear c64
                       by_cases c65 : 0 ≤ (rd t105 x8_3)
                       ·rw [if_pos c65] at H
                        have c65b0 : decide (0 ≤ (rd t105 x8_3)) = true := decide_eq_true c65
                        clear c65
                        by_cases c66 : (rd t105 x8_3) < (l0_2.length : Int)
                        ·rw [if_pos c66] at H
                         have c66b0 : decide ((rd t105 x8_3) < (l0_2.length : Int)) = true := decide_eq_true c66
                         clear c66
                         replace H := Option.bind_eq_some_iff.mp H
                         obtain ⟨t118, A670, H⟩ := H
                         replace H : (if x7_3.length + t118.length < 8796093022208 then (lambrequinlaw13_PlanGreedy.l1 k5 t102 t105 (x7_3 ++ t118) (wrap64 (x8_3 + 1)) a0_0 l0_1 l0_2) else (none)) = some r := H
                         have A67 := Aside0.mk A670
                         clear A670
                         by_cases c68 : x7_3.length + t118.length < 8796093022208
                         ·rw [if_pos c68] at H
                          have LMc68 := Aside0.mk c68
                          clear c68
                          obtain ⟨y121, hy121⟩ : ∃ y_ : List ByteArray, y_ = (x7_3 ++ t118) := ⟨_, rfl⟩
                          replace H : (lambrequinlaw13_PlanGreedy.l1 k5 t102 t105 y121 (wrap64 (x8_3 + 1)) a0_0 l0_1 l0_2) = some r := by first | (rw [hy121]; with_reducible exact H) | (have H2_ := (Option.bind_some _ _).symm.trans H; rw [hy121]; with_reducible exact H2_) | (have H2_ := (Option.bind_some _ _).symm.trans H; with_reducible exact H2_) | with_reducible exact H | (rw [hy121]; exact H) | exact H
                          have Ny121 := Aside0.mk hy121
                          clear hy121
                          have H' := Aside0.mk H
                          clear H
                          try go_wp2
                          have n0_ := Aside0.mk (Kd.R_drew HO_5.out)
                          have n1_ := Aside0.mk (Kd.R_drew HO_7.out)
                          have n2_ := Aside0.mk (blk_drew BK101.out)
                          have n3_ := Aside0.mk (below_drew1 HB.out)
                          clear HO_5
                          clear HO_7
                          clear BK101
                          clear HB
                          have HO_5 := n0_
                          have HO_7 := n1_
                          have BK101 := n2_
                          have HB := n3_
                          clear n0_ n1_ n2_ n3_
                          have p116 : 0 ≤ (x8_3 : Int) := of_decide_eq_true (by first | (with_reducible assumption) | assumption)
                          have q116 : x8_3 < (t105.length : Int) := of_decide_eq_true (by first | (with_reducible assumption) | assumption)
                          obtain ⟨ad116, e116, hx116_0⟩ := Kd.at_int (Kd.R_reads' HO_5.out).2.2 x8_3 p116 q116
                          obtain rfl : ad111 = ad116 := (by injection e116)
                          replace p116 := eq_true p116
                          replace q116 := eq_true q116
                          have p117 : 0 ≤ ((rd t105 x8_3) : Int) := of_decide_eq_true (by first | (with_reducible assumption) | assumption)
                          have q117 : (rd t105 x8_3) < (l0_2.length : Int) := of_decide_eq_true (by first | (with_reducible assumption) | assumption)
                          obtain ⟨ad117, A117_2, c117_2, e117, hx117_0, hx117_1, hx117_2, hx117_3, hx117_4, hx117_5, hx117_6, hx117_7, hx117_8, hx117_9, hx117_10, hx117_11, hx117_12, hx117_13, hl117_2, hi117_2⟩ := at_T47 HR0_2.out (rd t105 x8_3) p117 q117
                          have hw117_13 := hx117_13
                          have hw117_12 := hx117_12
                          have hw117_11 := hx117_11
                          have hw117_10 := hx117_10
                          have hw117_9 := hx117_9
                          have hw117_8 := hx117_8
                          have hw117_7 := hx117_7
                          have hw117_6 := hx117_6
                          have hw117_5 := hx117_5
                          have hw117_4 := hx117_4
                          have hw117_3 := hx117_3
                          have hw117_2 := hx117_2
                          have hw117_1 := hx117_1
                          have hw117_0 := hx117_0
                          obtain rfl : ad112 = ad117 := (by injection e117)
                          replace hx117_0 := (HB.out.cell (blt_ hx117_0)).trans hx117_0
                          replace hx117_1 := (HB.out.cell (blt_ hx117_1)).trans hx117_1
                          replace hx117_2 := (HB.out.cell (blt_ hx117_2)).trans hx117_2
                          replace hx117_3 := (HB.out.cell (blt_ hx117_3)).trans hx117_3
                          replace hx117_4 := (HB.out.cell (blt_ hx117_4)).trans hx117_4
                          replace hx117_5 := (HB.out.cell (blt_ hx117_5)).trans hx117_5
                          replace hx117_6 := (HB.out.cell (blt_ hx117_6)).trans hx117_6
                          replace hx117_7 := (HB.out.cell (blt_ hx117_7)).trans hx117_7
                          replace hx117_8 := (HB.out.cell (blt_ hx117_8)).trans hx117_8
                          replace hx117_9 := (HB.out.cell (blt_ hx117_9)).trans hx117_9
                          replace hx117_10 := (HB.out.cell (blt_ hx117_10)).trans hx117_10
                          replace hx117_11 := (HB.out.cell (blt_ hx117_11)).trans hx117_11
                          replace hx117_12 := (HB.out.cell (blt_ hx117_12)).trans hx117_12
                          replace hx117_13 := (HB.out.cell (blt_ hx117_13)).trans hx117_13
                          have HR117_2 := Aside0.mk hi117_2
                          have HC117_2 := Aside0.mk hl117_2
                          clear hi117_2 hl117_2
                          replace p117 := eq_true p117
                          replace q117 := eq_true q117
                          refine start_ (n := 13) (S := fun w' => w'.cell? ⟨gb101, 0, none⟩ = some (.string a0_0) ∧ w'.cell? ⟨gb101, 1, none⟩ = some (.slice A0_1 l0_1.length c0_1) ∧ w'.cell? ⟨gb101, 2, none⟩ = some (.slice (some ad112) l0_2.length c0_2) ∧ w'.cell? (ad111.add (x8_3).toNat) = some (.int .i64 (rd t105 x8_3)) ∧ w'.cell? (ad112.add (((rd t105 x8_3)).toNat * 14)) = some (.int .i64 ((rd_T47 l0_2 (rd t105 x8_3)).kind)) ∧ w'.cell? ⟨(ad112.add (((rd t105 x8_3)).toNat * 14)).block, (ad112.add (((rd t105 x8_3)).toNat * 14)).off + 1, none⟩ = some (.string ((rd_T47 l0_2 (rd t105 x8_3)).atom.pred)) ∧ w'.cell? ⟨(ad112.add (((rd t105 x8_3)).toNat * 14)).block, (ad112.add (((rd t105 x8_3)).toNat * 14)).off + 2, none⟩ = some (.slice A117_2 ((rd_T47 l0_2 (rd t105 x8_3)).atom.args).length c117_2) ∧ w'.cell? ⟨(ad112.add (((rd t105 x8_3)).toNat * 14)).block, (ad112.add (((rd t105 x8_3)).toNat * 14)).off + 3, none⟩ = some (.string ((rd_T47 l0_2 (rd t105 x8_3)).op)) ∧ w'.cell? ⟨(ad112.add (((rd t105 x8_3)).toNat * 14)).block, (ad112.add (((rd t105 x8_3)).toNat * 14)).off + 4, none⟩ = some (.bool ((rd_T47 l0_2 (rd t105 x8_3)).l.isVar)) ∧ w'.cell? ⟨(ad112.add (((rd t105 x8_3)).toNat * 14)).block, (ad112.add (((rd t105 x8_3)).toNat * 14)).off + 5, none⟩ = some (.string ((rd_T47 l0_2 (rd t105 x8_3)).l.name)) ∧ w'.cell? ⟨(ad112.add (((rd t105 x8_3)).toNat * 14)).block, (ad112.add (((rd t105 x8_3)).toNat * 14)).off + 6, none⟩ = some (.bool ((rd_T47 l0_2 (rd t105 x8_3)).l.val.isSym)) ∧ w'.cell? ⟨(ad112.add (((rd t105 x8_3)).toNat * 14)).block, (ad112.add (((rd t105 x8_3)).toNat * 14)).off + 7, none⟩ = some (.string ((rd_T47 l0_2 (rd t105 x8_3)).l.val.sym)) ∧ w'.cell? ⟨(ad112.add (((rd t105 x8_3)).toNat * 14)).block, (ad112.add (((rd t105 x8_3)).toNat * 14)).off + 8, none⟩ = some (.int .i64 ((rd_T47 l0_2 (rd t105 x8_3)).l.val.n)) ∧ w'.cell? ⟨(ad112.add (((rd t105 x8_3)).toNat * 14)).block, (ad112.add (((rd t105 x8_3)).toNat * 14)).off + 9, none⟩ = some (.bool ((rd_T47 l0_2 (rd t105 x8_3)).r.isVar)) ∧ w'.cell? ⟨(ad112.add (((rd t105 x8_3)).toNat * 14)).block, (ad112.add (((rd t105 x8_3)).toNat * 14)).off + 10, none⟩ = some (.string ((rd_T47 l0_2 (rd t105 x8_3)).r.name)) ∧ w'.cell? ⟨(ad112.add (((rd t105 x8_3)).toNat * 14)).block, (ad112.add (((rd t105 x8_3)).toNat * 14)).off + 11, none⟩ = some (.bool ((rd_T47 l0_2 (rd t105 x8_3)).r.val.isSym)) ∧ w'.cell? ⟨(ad112.add (((rd t105 x8_3)).toNat * 14)).block, (ad112.add (((rd t105 x8_3)).toNat * 14)).off + 12, none⟩ = some (.string ((rd_T47 l0_2 (rd t105 x8_3)).r.val.sym)) ∧ w'.cell? ⟨(ad112.add (((rd t105 x8_3)).toNat * 14)).block, (ad112.add (((rd t105 x8_3)).toNat * 14)).off + 13, none⟩ = some (.int .i64 ((rd_T47 l0_2 (rd t105 x8_3)).r.val.n))) (ds := [11]) #[false, false, false, false, false, false, false, false, false, false, false, false, false] (by kernel_rfl) rfl rfl ⟨(blk_cell BK101.out 0).trans rfl, (blk_cell BK101.out 1).trans rfl, (blk_cell BK101.out 2).trans rfl, hx116_0, ((HB.out.cell (blt_ hw117_0)).trans hw117_0), ((HB.out.cell (blt_ hw117_1)).trans hw117_1), ((HB.out.cell (blt_ hw117_2)).trans hw117_2), ((HB.out.cell (blt_ hw117_3)).trans hw117_3), ((HB.out.cell (blt_ hw117_4)).trans hw117_4), ((HB.out.cell (blt_ hw117_5)).trans hw117_5), ((HB.out.cell (blt_ hw117_6)).trans hw117_6), ((HB.out.cell (blt_ hw117_7)).trans hw117_7), ((HB.out.cell (blt_ hw117_8)).trans hw117_8), ((HB.out.cell (blt_ hw117_9)).trans hw117_9), ((HB.out.cell (blt_ hw117_10)).trans hw117_10), ((HB.out.cell (blt_ hw117_11)).trans hw117_11), ((HB.out.cell (blt_ hw117_12)).trans hw117_12), ((HB.out.cell (blt_ hw117_13)).trans hw117_13)⟩ (fun hHeld => ?_); refine with_tabW lambrequinlaw13_PlanGreedy.tab27 lambrequinlaw13_PlanGreedy.bits27 (fun HT_ HW_ => ?_)
                          generalize wr.drew = w69 at HO_5 HO_7 BK101 HB HR117_2 hx116_0 hx117_0 hx117_1 hx117_10 hx117_11 hx117_12 hx117_13 hx117_2 hx117_3 hx117_4 hx117_5 hx117_6 hx117_7 hx117_8 hx117_9 hHeld ⊢
                          refine pure_ (i := 0) (N := some 134) (v := ?_) (a' := ?_) #[true, false, false, false, false, false, false, false, false, false, false, false, false] rfl rfl (any_of HT_.out (by kernel_rfl)) (fun _ _ _ h => h) (Or.inl ⟨by rfl, ?_⟩) ?_ ?_
                          rotate_left
                          ·intro w'
                           go_simp
                           with_reducible rfl
                          rotate_left
                          ·simp only [Act.put, List.setIfInBounds_toArray, List.set_cons_zero, List.set_cons_succ, i64_w, i32_w]
                           rfl
                          refine pure_ (i := 1) (N := some 135) (v := ?_) (a' := ?_) #[true, true, false, false, false, false, false, false, false, false, false, false, false] rfl rfl (any_of HT_.out (by kernel_rfl)) (fun _ _ _ h => h) (Or.inl ⟨by rfl, ?_⟩) ?_ ?_
                          rotate_left
                          ·intro w'
                           go_simp
                           with_reducible rfl
                          rotate_left
                          ·simp only [Act.put, List.setIfInBounds_toArray, List.set_cons_zero, List.set_cons_succ, i64_w, i32_w]
                           rfl
                          refine pure_ (i := 3) (N := some 137) (v := ?_) (a' := ?_) #[true, true, false, true, false, false, false, false, false, false, false, false, false] rfl rfl (any_of HT_.out (by kernel_rfl)) (fun _ _ _ h => h) (Or.inl ⟨by rfl, ?_⟩) ?_ ?_
                          rotate_left
                          ·intro w'
                           go_simp
                           with_reducible rfl
                          rotate_left
                          ·simp only [Act.put, List.setIfInBounds_toArray, List.set_cons_zero, List.set_cons_succ, i64_w, i32_w]
                           rfl
                          refine pure_ (i := 4) (N := some 138) (v := ?_) (a' := ?_) #[true, true, false, true, true, false, false, false, false, false, false, false, false] rfl rfl (any_of HT_.out (by kernel_rfl)) (fun _ _ _ h => h) (Or.inl ⟨by rfl, ?_⟩) ?_ ?_
                          rotate_left
                          ·intro w'
                           go_simp
                           with_reducible rfl
                          rotate_left
                          ·simp only [Act.put, List.setIfInBounds_toArray, List.set_cons_zero, List.set_cons_succ, i64_w, i32_w]
                           rfl
                          refine pure_ (i := 5) (N := some 139) (v := ?_) (a' := ?_) #[true, true, false, true, true, true, false, false, false, false, false, false, false] rfl rfl (any_of HT_.out (by kernel_rfl)) (fun _ _ _ h => h) (Or.inl ⟨by rfl, ?_⟩) ?_ ?_
                          rotate_left
                          ·intro w'
                           go_simp
                           with_reducible rfl
                          rotate_left
                          ·simp only [Act.put, List.setIfInBounds_toArray, List.set_cons_zero, List.set_cons_succ, i64_w, i32_w]
                           rfl
                          refine take_ (i := 2) (N := some 136) (v := ?_) (a' := ?_) #[true, true, true, true, true, true, false, false, false, false, false, false, false] rfl rfl (take_ofW HT_.out HW_.out (by kernel_rfl)) (fun _ _ _ h => h) (Or.inl ⟨by rfl, ?_⟩) hHeld ?_ ?_
                          rotate_left
                          ·rintro w' ⟨s0, s1, s2, s3, s4, s5, s6, s7, s8, s9, s10, s11, s12, s13, s14, s15, s16, s17⟩
                           go_simp
                           with_reducible rfl
                          rotate_left
                          ·simp only [Act.put, List.setIfInBounds_toArray, List.set_cons_zero, List.set_cons_succ, i64_w, i32_w]
                           rfl
                          refine take_ (i := 6) (N := some 140) (v := ?_) (a' := ?_) #[true, true, true, true, true, true, true, false, false, false, false, false, false] rfl rfl (take_ofW HT_.out HW_.out (by kernel_rfl)) (fun _ _ _ h => h) (Or.inl ⟨by rfl, ?_⟩) hHeld ?_ ?_
                          rotate_left
                          ·rintro w' ⟨s0, s1, s2, s3, s4, s5, s6, s7, s8, s9, s10, s11, s12, s13, s14, s15, s16, s17⟩
                           go_simp
                           with_reducible rfl
                          rotate_left
                          ·simp only [Act.put, List.setIfInBounds_toArray, List.set_cons_zero, List.set_cons_succ, i64_w, i32_w]
                           rfl
                          refine pure_ (i := 7) (N := some 141) (v := ?_) (a' := ?_) #[true, true, true, true, true, true, true, true, false, false, false, false, false] rfl rfl (any_of HT_.out (by kernel_rfl)) (fun _ _ _ h => h) (Or.inl ⟨by rfl, ?_⟩) ?_ ?_
                          rotate_left
                          ·intro w'
                           go_simp
                           with_reducible rfl
                          rotate_left
                          ·simp only [Act.put, List.setIfInBounds_toArray, List.set_cons_zero, List.set_cons_succ, i64_w, i32_w]
                           rfl
                          refine pure_ (i := 8) (N := some 142) (v := ?_) (a' := ?_) #[true, true, true, true, true, true, true, true, true, false, false, false, false] rfl rfl (any_of HT_.out (by kernel_rfl)) (fun _ _ _ h => h) (Or.inl ⟨by rfl, ?_⟩) ?_ ?_
                          rotate_left
                          ·intro w'
                           go_simp
                           with_reducible rfl
                          rotate_left
                          ·simp only [Act.put, List.setIfInBounds_toArray, List.set_cons_zero, List.set_cons_succ, i64_w, i32_w]
                           rfl
                          refine take_ (i := 9) (N := some 143) (v := ?_) (a' := ?_) #[true, true, true, true, true, true, true, true, true, true, false, false, false] rfl rfl (take_ofW HT_.out HW_.out (by kernel_rfl)) (fun _ _ _ h => h) (Or.inl ⟨by rfl, ?_⟩) hHeld ?_ ?_
                          rotate_left
                          ·rintro w' ⟨s0, s1, s2, s3, s4, s5, s6, s7, s8, s9, s10, s11, s12, s13, s14, s15, s16, s17⟩
                           go_simp
                           with_reducible rfl
                          rotate_left
                          ·simp only [Act.put, List.setIfInBounds_toArray, List.set_cons_zero, List.set_cons_succ, i64_w, i32_w]
                           rfl
                          refine one_ (i := 10) (N := some 144) #[true, true, true, true, true, true, true, true, true, true, true, false, false] rfl rfl (one_of HT_.out (by kernel_rfl)) (by decide) (fun K hK => ?_)
                          refine goes_ Try.func22 (by kernel_rfl) rfl #[.agg #[.string ((rd_T47 l0_2 (rd t105 x8_3)).atom.pred), .slice A117_2 ((rd_T47 l0_2 (rd t105 x8_3)).atom.args).length c117_2]] (by rfl) rfl rfl (by (try simp only [List.map_toArray, List.map_cons, List.map_nil]); first | done | rfl | (simp only [List.length_drop, List.length_take]; rfl)) ?_
                          with_reducible refine (lambrequinref09_Vars.calls k5 ((rd_T47 l0_2 (rd t105 x8_3)).atom.pred) _ _ ((rd_T47 l0_2 (rd t105 x8_3)).atom.args) t118 _ ?side1 ?side2 A67.out).mono ?_
                          (case side1 => repeat (first | exact (Kd.C_below HR117_2.out HB.out) | (with_reducible refine Kd.C_alloc ?_ _) | (with_reducible refine Kd.C_drewN ?_ _) | (with_reducible refine Kd.C_drew ?_)))
                          (case side2 => exact HC117_2.out)
                          rintro e w70 ⟨v119, rfl, ho0, hb⟩
                          have HS3_ := (hb.cell (blt_ (hHeld.2.2.2.1))).trans (hHeld.2.2.2.1)
                          refine ⟨_, rfl, ?_⟩
                          have n0_ := Aside0.mk (Kd.R_below (by (with_reducible repeat (first | apply Kd.R_alloc | apply Kd.R_drewN | apply Kd.R_drew)); exact HO_5.out) hb)
                          have n1_ := Aside0.mk (Kd.R_elder' (by (with_reducible repeat (first | apply Kd.R_alloc | apply Kd.R_drewN | apply Kd.R_drew)); exact HO_7.out) (Kd.R_base ho0) hb)
                          have n2_ := Aside0.mk (Kd.R_lower (Kd.R_new' ho0 (Kd.R_lt (by (with_reducible repeat (first | apply Kd.R_alloc | apply Kd.R_drewN | apply Kd.R_drew)); exact HO_7.out))) (below_size (by repeat (first | (with_reducible first | exact HB.out | apply below_alloc | apply pw_below_drewN | apply below_drew1 | refine below_set ?_ GE101.out) | exact HB.out))))
                          have n3_ := Aside0.mk (blk_below (g := gb101) (o := .cells #[.string a0_0, .slice A0_1 l0_1.length c0_1, .slice (some ad112) l0_2.length c0_2] 27 (0, 0)) (by (with_reducible repeat (first | refine blk_drewN ?_ _ | refine blk_drew ?_ | refine blk_alloc ?_ _)); exact BK101.out) hb)
                          have n4_ := Aside0.mk (below_step (by repeat (first | (with_reducible first | exact HB.out | apply below_alloc | apply pw_below_drewN | apply below_drew1 | refine below_set ?_ GE101.out) | exact HB.out)) hb)
                          clear HO_5
                          clear HO_7
                          clear BK101
                          clear HB
                          have HO_5 := n0_
                          have HO_7 := n1_
                          have HO120 := n2_
                          have BK101 := n3_
                          have HB := n4_
                          clear n0_ n1_ n2_ n3_ n4_
                          (try clear hb)
                          (try clear hb2)
                          (try clear hk)
                          (try clear hi)
                          (try clear ho0)
                          obtain ⟨Ao72, co72, eo72⟩ := Kd.R_slice HO120.out
                          (first | subst eo72 | (injection eo72 with f1_ f2_ f3_; have f4_ := f1_.symm; have f5_ := f3_.symm; clear f1_ f2_ f3_; subst f4_; subst f5_))
                          refine hK.out _ _ ⟨(blk_cell BK101.out 0).trans rfl, (blk_cell BK101.out 1).trans rfl, (blk_cell BK101.out 2).trans rfl, HS3_, ((HB.out.cell (blt_ hw117_0)).trans hw117_0), ((HB.out.cell (blt_ hw117_1)).trans hw117_1), ((HB.out.cell (blt_ hw117_2)).trans hw117_2), ((HB.out.cell (blt_ hw117_3)).trans hw117_3), ((HB.out.cell (blt_ hw117_4)).trans hw117_4), ((HB.out.cell (blt_ hw117_5)).trans hw117_5), ((HB.out.cell (blt_ hw117_6)).trans hw117_6), ((HB.out.cell (blt_ hw117_7)).trans hw117_7), ((HB.out.cell (blt_ hw117_8)).trans hw117_8), ((HB.out.cell (blt_ hw117_9)).trans hw117_9), ((HB.out.cell (blt_ hw117_10)).trans hw117_10), ((HB.out.cell (blt_ hw117_11)).trans hw117_11), ((HB.out.cell (blt_ hw117_12)).trans hw117_12), ((HB.out.cell (blt_ hw117_13)).trans hw117_13)⟩ (fun hHeld => ?_)
                          clear hK K
                          refine norm_ (a' := ?_) ?_ ?_
                          rotate_left
                          ·show Act.put _ (some 144) _ = _
                           simp only [Act.put, List.setIfInBounds_toArray, List.set_cons_zero, List.set_cons_succ, i64_w, i32_w]
                           rfl
                          refine last_ (i := 11) (N := some 145) #[true, true, true, true, true, true, true, true, true, true, true, true, false] rfl rfl (one_of HT_.out (by kernel_rfl)) (by decide) (fun K hK => ?_)
                          refine Kd.R_append_rows_step Kd.string (w0 := w) w.heap.size (by rfl) (.tmp 134) (.tmp 144) 28 9 (.string ⟨#[]⟩) 16 rfl Try.underlying28 info9 rfl (by decide) (by omega) (.slice Ao36 x7_3.length co36) x7_3 t118 _ _ _ (fun k_ => some k_ ≠ (.slice Ao72 t118.length co72 : Value).ownBlock) (fun _ => False) rfl rfl ?aO ?aR (fun _ _ h => h) (fun _ h => h.elim) ?aF ?aB ?aS ?aL ?_
                          (case aR => repeat (first | exact (Kd.R_reads' HO120.out).2.2 | (with_reducible refine Kd.C_alloc ?_ _) | (with_reducible refine Kd.C_drewN ?_ _) | (with_reducible refine Kd.C_drew ?_)))
                          (case aB => exact (by repeat (first | (with_reducible first | exact HB.out | apply below_alloc | apply pw_below_drewN | apply below_drew1 | refine below_set ?_ GE101.out) | exact HB.out)))
                          (case aF => exact (fun k_ hk => Kd.fresh' (Kd.R_lt (by (with_reducible repeat (first | apply Kd.R_alloc | apply Kd.R_drewN | apply Kd.R_drew)); exact HO120.out)) k_ hk))
                          (case aO => exact (by (with_reducible repeat (first | apply Kd.R_alloc | apply Kd.R_drewN | apply Kd.R_drew)); exact Kd.R_mono HO_7.out (fun _ hk => hk.2)))
                          (case aS => exact (below_size (by repeat (first | (with_reducible first | exact HB.out | apply below_alloc | apply pw_below_drewN | apply below_drew1 | refine below_set ?_ GE101.out) | exact HB.out))))
                          (case aL => have := LMc68.out; omega)
                          intro v122 w71 ho hb hg hat
                          rw [← Ny121.out] at ho
                          have n0_ := Aside0.mk (Kd.R_over' (by (with_reducible repeat (first | apply Kd.R_alloc | apply Kd.R_drewN | apply Kd.R_drew)); exact HO_5.out) (Kd.R_typed (by (with_reducible repeat (first | apply Kd.R_alloc | apply Kd.R_drewN | apply Kd.R_drew)); exact HO_7.out)) (by decide) hg)
                          have n1_ := Aside0.mk (blk_grown (g := gb101) (o := .cells #[.string a0_0, .slice A0_1 l0_1.length c0_1, .slice (some ad112) l0_2.length c0_2] 27 (0, 0)) (by (with_reducible repeat (first | refine blk_drewN ?_ _ | refine blk_drew ?_ | refine blk_alloc ?_ _)); exact BK101.out) hg (Kd.R_ne HO_7.out BK101.out (by decide)))
                          have n2_ := Aside0.mk (Kd.R_after (ok := (fun _ => True)) (by (with_reducible repeat (first | apply Kd.R_alloc | apply Kd.R_drewN | apply Kd.R_drew)); exact HO120.out) hg hat)
                          have n3_ := Aside0.mk (hb)
                          have n4_ := Aside0.mk (ho)
                          clear HO_5
                          clear BK101
                          clear HO120
                          clear HB
                          clear HO_7
                          have HO_5 := n0_
                          have BK101 := n1_
                          have HO120 := n2_
                          have HB := n3_
                          have HO123 := n4_
                          clear n0_ n1_ n2_ n3_ n4_
                          clear ho hb hg hat
                          refine hK.out _ _ ?_
                          clear hK K
                          refine norm_ (a' := ?_) ?_ ?_
                          rotate_left
                          ·show Act.put _ (some 145) _ = _
                           simp only [Act.put, List.setIfInBounds_toArray, List.set_cons_zero, List.set_cons_succ, i64_w, i32_w]
                           rfl
                          refine pure_ (i := 12) (N := some 7) (v := ?_) (a' := ?_) #[true, true, true, true, true, true, true, true, true, true, true, true, true] rfl rfl (any_of HT_.out (by kernel_rfl)) (fun _ _ _ h => h) (Or.inl ⟨by rfl, ?_⟩) ?_ ?_
                          rotate_left
                          ·intro w'
                           go_simp
                           with_reducible rfl
                          rotate_left
                          ·simp only [Act.put, List.setIfInBounds_toArray, List.set_cons_zero, List.set_cons_succ, i64_w, i32_w]
                           rfl
                          refine done_ (done_of HT_.out (by kernel_rfl)) ?_
                          try go_wp2
                          go_roundg k5
                          case measure => have := HK1.out; have := HJ14.out; have := HK3.out; have := HJ22.out; have := HK5.out; omega
                          case rel => exact ⟨(y121), (wrap64 (x8_3 + 1)), (by first | rfl | (simp; done) | (simp [*]; done)), H', ⟨by have := HK1.out; have := HJ14.out; have := HK3.out; have := HJ22.out; have := HK5.out; omega⟩, ⟨by (with_reducible repeat (first | apply Kd.R_alloc | apply Kd.R_drewN | apply Kd.R_drew)); exact HO_5.out⟩, ⟨by (with_reducible repeat (first | apply Kd.R_alloc | apply Kd.R_drewN | apply Kd.R_drew)); exact Kd.R_mono HO123.out (fun _ hk => trivial)⟩, ⟨by (with_reducible repeat (first | refine blk_drewN ?_ _ | refine blk_drew ?_ | refine blk_alloc ?_ _)); exact BK101.out⟩, ⟨by repeat (first | (with_reducible first | exact HB.out | apply below_alloc | apply pw_below_drewN | apply below_drew1 | refine below_set ?_ GE101.out) | exact HB.out)⟩⟩
                         ·rw [if_neg c68] at H
                          exact absurd H (by simp)
                        ·rw [if_neg c66] at H
                         exact absurd H (by simp)
                       ·rw [if_neg c65] at H
                        exact absurd H (by simp)
                      ·rw [if_neg c64] at H
                       exact absurd H (by simp)
                     ·rw [if_neg c63] at H
                      exact absurd H (by simp)
                 ·rw [if_neg c33] at H
                  exact absurd H (by simp)
                ·rw [if_neg c32] at H
                 exact absurd H (by simp)
               ·rw [if_neg c31] at H
                exact absurd H (by simp)
              ·rw [if_neg c30] at H
               exact absurd H (by simp)
          ·rw [if_neg c22] at H
           have c22b0 : decide (x8_3 < (t105.length : Int)) = false := decide_eq_false c22
           clear c22
           obtain rfl := Option.some.inj H
           obtain ⟨Ao73, co73, eo73⟩ := Kd.R_slice HO_5.out
           subst eo73
           go_wp2
           go_ret
           exact ⟨by first | rfl | (simp [errW_none, errW_some] <;> rfl) | (simp [*, errW_none, errW_some] <;> rfl), by repeat (first | (with_reducible first | exact HB.out | apply below_alloc | apply pw_below_drewN | apply below_drew1 | refine below_set ?_ GE101.out) | exact HB.out)⟩
 ·replace c4 := Bool.eq_false_iff.mpr c4
  subst c4
  have H1 : (some t102) = some r := by rw [if_neg (show ¬ (false = true) by decide)] at H; exact H
  clear H
  have H := H1
  clear H1
  obtain rfl := Option.some.inj H
  go_enter Try.func7, Try.ntmps7
  go_wp2_with (first | ((with_reducible refine gate_dst (N := 1) rfl ?_); (try (refine gate_guard (by rfl) ?_; dsimp only)); refine box_event ?hg (N := 1) ?hd (cs := #[.string a0_0, .slice A0_1 l0_1.length c0_1, .slice A0_2 l0_2.length c0_2]) (t := 27) ?hr ?_; (case hd => rfl); (case hg => rfl); (case hr => first | (go_simp; done) | (go_simp; rfl)); intro gb101 hg w74 hbox hb; have n0_ := Aside0.mk (below_step (by repeat (first | (with_reducible first | exact HB.out | apply below_alloc | apply pw_below_drewN | apply below_drew1) | exact HB.out)) hb); have n1_ := Aside0.mk (hbox); have n2_ := Aside0.mk ((by rw [hg]; exact (below_size (by repeat (first | (with_reducible first | exact HB.out | apply below_alloc | apply pw_below_drewN | apply below_drew1) | exact HB.out))) : w.heap.size ≤ gb101)); have n3_ := Aside0.mk ((by rw [hg]; exact (below_size (by repeat (first | (with_reducible first | exact HB.out | apply below_alloc | apply pw_below_drewN | apply below_drew1) | exact HB.out))) : w.heap.size ≤ gb101)); clear HB; have HB := n0_; have BK101 := n1_; have GW101 := n2_; have GE101 := n3_; clear n0_ n1_ n2_ n3_; clear hb hbox hg) | ((with_reducible refine gate_callee (f := 15) rfl ?_); refine goesL_ (some 12) rfl rfl Try.func15 (by kernel_rfl) rfl #[] rfl (by (try simp only [List.map_toArray, List.map_cons, List.map_nil]); first | done | rfl | (simp only [List.length_drop, List.length_take]; rfl)) ?_; (with_reducible refine (lambrequinlaw13_shown.calls  t102 _ A2.out).mono ?_); rintro e w75 ⟨rfl, hb⟩; refine ⟨_, rfl, ?_⟩; have n0_ := Aside0.mk (blk_below (g := gb101) (o := .cells #[.string a0_0, .slice A0_1 l0_1.length c0_1, .slice A0_2 l0_2.length c0_2] 27 (0, 0)) (by (with_reducible repeat (first | refine blk_drewN ?_ _ | refine blk_drew ?_ | refine blk_alloc ?_ _)); exact BK101.out) hb); have n1_ := Aside0.mk (below_step (by repeat (first | (with_reducible first | exact HB.out | apply below_alloc | apply pw_below_drewN | apply below_drew1 | refine below_set ?_ GE101.out) | exact HB.out)) hb); clear BK101; clear HB; have BK101 := n0_; have HB := n1_; clear n0_ n1_; (try clear hb); (try clear hb2); (try clear hk); (try clear hi); have hcz76_0 : w75.cell? ⟨gb101, 0, none⟩ = some (.string a0_0) := (blk_cell BK101.out 0).trans rfl; have hcz76_1 : w75.cell? ⟨gb101, 1, none⟩ = some (.slice A0_1 l0_1.length c0_1) := (blk_cell BK101.out 1).trans rfl; have hcz76_2 : w75.cell? ⟨gb101, 2, none⟩ = some (.slice A0_2 l0_2.length c0_2) := (blk_cell BK101.out 2).trans rfl; have hfz76_0 := blk_frozen BK101.out 0; have hfz76_1 := blk_frozen BK101.out 1; have hfz76_2 := blk_frozen BK101.out 2) | ((with_reducible refine gate_callee (f := 16) rfl ?_); refine goesL_ (some 14) rfl rfl Try.func16 (by kernel_rfl) rfl #[.agg #[.string a0_0, .slice A0_1 l0_1.length c0_1, .slice A0_2 l0_2.length c0_2]] rfl (by (try simp only [List.map_toArray, List.map_cons, List.map_nil]); first | done | rfl | (simp only [List.length_drop, List.length_take]; rfl)) ?_; (with_reducible refine (lambrequinlaw13_few.calls k a0_0 _ _ l0_1 _ _ l0_2 false _ ?side1 ?side2 ?side3 ?side4 A3.out).mono ?_); (case side1 => repeat (first | exact (Kd.C_below HR0_1.out HB.out) | (with_reducible refine Kd.C_alloc ?_ _) | (with_reducible refine Kd.C_drewN ?_ _) | (with_reducible refine Kd.C_drew ?_))); (case side2 => exact HC0_1.out); (case side3 => repeat (first | exact (Kd.C_below HR0_2.out HB.out) | (with_reducible refine Kd.C_alloc ?_ _) | (with_reducible refine Kd.C_drewN ?_ _) | (with_reducible refine Kd.C_drew ?_))); (case side4 => exact HC0_2.out); rintro e w77 ⟨rfl, hb⟩; refine ⟨_, rfl, ?_⟩; have n0_ := Aside0.mk (blk_below (g := gb101) (o := .cells #[.string a0_0, .slice A0_1 l0_1.length c0_1, .slice A0_2 l0_2.length c0_2] 27 (0, 0)) (by (with_reducible repeat (first | refine blk_drewN ?_ _ | refine blk_drew ?_ | refine blk_alloc ?_ _)); exact BK101.out) hb); have n1_ := Aside0.mk (below_step (by repeat (first | (with_reducible first | exact HB.out | apply below_alloc | apply pw_below_drewN | apply below_drew1 | refine below_set ?_ GE101.out) | exact HB.out)) hb); clear BK101; clear HB; have BK101 := n0_; have HB := n1_; clear n0_ n1_; (try clear hb); (try clear hb2); (try clear hk); (try clear hi)))
  go_ret
  exact ⟨by first | rfl | (simp [errW_none, errW_some] <;> rfl) | (simp [*, errW_none, errW_some] <;> rfl), by repeat (first | (with_reducible first | exact HB.out | apply below_alloc | apply pw_below_drewN | apply below_drew1 | refine below_set ?_ GE101.out) | exact HB.out)⟩

end Go.Proofs.Ythpejcnldecmoaa.H
/- PlanGreedy: where nothing asks each atom has no fewer known places than any that is left. Conditions: the statement's own. -/
namespace Go.Proofs.Ythpejcnldecmoaa.H
open Go.RowKit Go.Proofs.YthpejcnldecmoaaW.PrintWords
set_option linter.unusedVariables false
set_option linter.unusedSimpArgs false
theorem bestGo_none (body : List Liter) (b : List ByteArray) : ∀ (l : List Nat) (m : Int), (bestGo body b l (none, m)).1 = none → ∀ j ∈ l, (lit body j).kind = 1 → colN body b j ≤ m
  | [], m, _, j, hj, _ => by simp at hj
  | x :: l, m, h, j, hj, hk => by
    unfold bestGo at h
    by_cases hx : (lit body x).kind = 1 ∧ m < ((cols b (lit body x).atom.args).length : Int)
    · rw [if_pos hx] at h
      exfalso
      have : ∀ (l : List Nat) (s : Option Nat × Int), s.1 ≠ none → (bestGo body b l s).1 ≠ none := by
        intro l
        induction l with
        | nil => intro s hs; simpa [bestGo] using hs
        | cons y l ih =>
          intro s hs
          unfold bestGo
          split
          · exact ih _ (by simp)
          · exact ih _ hs
      exact this l _ (by simp) h
    · rw [if_neg hx] at h
      rcases List.mem_cons.1 hj with rfl | hj
      · unfold colN
        have : ¬ m < ((cols b (lit body j).atom.args).length : Int) := fun h' => hx ⟨hk, h'⟩
        omega
      · exact bestGo_none body b l m h j hj hk
theorem run_all {body : List Liter} (h : ∀ k, k < body.length → (lit body k).kind = 1) : ∀ (n : Nat) (o : List Nat), (stOf body o).left.length ≤ n → ∃ l, runOf body n (stOf body o) = some l := by
  intro n
  induction n with
  | zero =>
    intro o hn
    exact ⟨o, by unfold runOf; rw [if_pos (List.length_eq_zero_iff.1 (by omega))]; rfl⟩
  | succ n ih =>
    intro o hn
    unfold runOf
    by_cases c : (stOf body o).left = []
    · exact ⟨o, by rw [if_pos c]; rfl⟩
    · rw [if_neg c]
      cases hx : nextOf body (stOf body o) with
      | none =>
        exfalso
        unfold nextOf at hx
        split at hx
        · cases hx
        · obtain ⟨j, hj⟩ := List.exists_mem_of_ne_nil _ c
          have := bestGo_none body _ _ _ hx j hj (h j (stOf_left.1 hj).1)
          unfold colN at this
          omega
      | some k =>
        have := takeOf_len (body := body) (nextOf_mem hx)
        show ∃ l, runOf body n (takeOf body (stOf body o) k) = some l
        rw [stOf_take] at this ⊢
        exact ih _ (by omega)
theorem order_all {body : List Liter} (h : ∀ y ∈ body, y.kind = 1) : Traced body (-1) (orderOf body (-1)).1 ∧ (orderOf body (-1)).2 = 0 := by
  have hk : ∀ k, k < body.length → (lit body k).kind = 1 := fun k hk => by
    rw [lit_of (List.getElem?_eq_getElem hk)]
    exact h _ (List.getElem_mem _)
  have hb : badFirst body (-1) = false := by
    rw [badFirst_eq]
    have : body.any odd = false := by
      rw [List.any_eq_false]
      intro y hy
      rw [Bool.not_eq_true]
      exact odd_iff.2 (.inl (h y hy))
    rw [this]
    have : ¬ (body.length : Int) ≤ -1 := by omega
    simp [badHead, this]
  rcases order_code body (-1) with ⟨h0, T⟩ | ⟨h0, _⟩
  · exact ⟨T, h0⟩
  · exfalso
    obtain ⟨l, hl⟩ := run_all hk body.length [] (by have := left_len body [] (by simp) (by simp); simp at this; omega)
    unfold orderOf at h0
    rw [hb, stOf_start] at h0
    simp [hl] at h0
theorem ints_drop {l : List Nat} {n k : Nat} (h : l[n]? = some k) : (n : Int) < ((ints l).length : Int) ∧ rd (ints l) (n : Int) = (k : Int) := by
  have h1 := (List.getElem?_eq_some_iff.1 h).1
  refine ⟨by rw [ints_len']; omega, ?_⟩
  exact getD_at (by simp [ints, h]) _
section
variable (p : ByteArray) (h : List Term) (body : List Liter) (hl : body.length ≤ 20) (ha : ∀ y ∈ body, y.atom.args.length ≤ 20) (hk : ∀ y ∈ body, y.kind = 1) (l : List Nat) (T : Traced body (-1) l)
include hl ha hk T
theorem greedy_l2 (i k : Nat) (hi : l[i]? = some k) (next : Ev (fun n => lambrequinlaw13_PlanGreedy.l1 n true (ints l) (boundOf body (l.take (i + 1))) ((i + 1 : Nat) : Int) p h body) true) :
    ∀ (d j : Nat), j + d = l.length → i < j → Ev (fun n => lambrequinlaw13_PlanGreedy.l2 n true (ints l) (boundOf body (l.take i)) i ((cols (boundOf body (l.take i)) (lit body k).atom.args).length : Int) j p h body) true := by
  have hkb := (T.fresh hi).1
  obtain ⟨h1, h2⟩ := ints_drop hi
  have ly : body[k]? = some (lit body k) := by rw [lit_of (List.getElem?_eq_getElem hkb)]; exact List.getElem?_eq_getElem hkb
  have hlm := List.mem_of_getElem? ly
  have hay := ha _ hlm
  have hll := T.len
  have hbl := boundOf_len body (fun y hy => by have := ha y hy; omega) (l.take i) (fun j hj => by
    obtain ⟨a, ha', rfl⟩ := List.mem_take_iff_getElem.1 hj
    exact (T.fresh (List.getElem?_eq_getElem (by omega))).1)
  have hbl2 : (boundOf body (l.take i)).length ≤ 20000 := by have : (l.take i).length ≤ 20 := by simp; omega
                                                             omega
  intro d
  induction d with
  | zero =>
    intro j e hij
    refine Ev.step (fun k => by rw [lambrequinlaw13_PlanGreedy.l2]) ?_
    refine Ev.neg (by rw [ints_len']; omega) (Ev.pos (by omega) (Ev.pos h1 ?_))
    rw [h2]
    refine Ev.pos (by omega) (Ev.pos (by omega) ?_)
    rw [show rd_T47 body (k : Int) = lit body k from getD_at ly _, wrap_up (by omega)]
    have := names_len (lit body k).atom.args
    refine Ev.bind (Vars_ev _ _ (by omega)) (Ev.pos (by omega) ?_)
    rw [List.take_add_one, hi, Option.toList_some, boundOf_snoc, if_pos (hk _ hlm)] at next
    exact next
  | succ d ih =>
    intro j e hij
    obtain ⟨m, hj⟩ : ∃ m, l[j]? = some m := ⟨l[j], List.getElem?_eq_getElem (by omega)⟩
    obtain ⟨g1, g2⟩ := ints_drop hj
    have hmb := (T.fresh hj).1
    have lm : body[m]? = some (lit body m) := by rw [lit_of (List.getElem?_eq_getElem hmb)]; exact List.getElem?_eq_getElem hmb
    have ham := ha _ (List.mem_of_getElem? lm)
    have G := T.greedy hi (hk _ hlm) hij hj (hk _ (List.mem_of_getElem? lm))
    refine Ev.step (fun k => by rw [lambrequinlaw13_PlanGreedy.l2]) ?_
    refine Ev.pos g1 (Ev.pos (by omega) ?_)
    rw [g2]
    refine Ev.neg (by omega) (Ev.step (fun k => by rw [lambrequinlaw13_PlanGreedy.j5]) ?_)
    refine Ev.neg (by simp; omega) (Ev.pos (by omega) (Ev.pos g1 ?_))
    rw [g2, h2]
    refine Ev.pos (by omega) (Ev.pos (by omega) ?_)
    rw [show rd_T47 body (m : Int) = lit body m from getD_at lm _]
    have next' := ih (j + 1) (by omega) (by omega)
    rw [← wrap_up (show j < 9223372036854775807 by omega)] at next'
    have last : ∀ b : Bool, b = false → Ev (fun n => lambrequinlaw13_PlanGreedy.j6 n true (ints l) (boundOf body (l.take i)) i ((cols (boundOf body (l.take i)) (lit body k).atom.args).length : Int) j b p h body) true := fun b hb =>
      Ev.step (fun k => by rw [lambrequinlaw13_PlanGreedy.j6]) (Ev.neg (by rw [hb]; simp) next')
    refine Ev.bind (pCols_ev _ _ _ (by omega) (by omega)) (Ev.neg (by omega) ?_)
    by_cases c : (cols (boundOf body (l.take i)) (lit body m).atom.args).length = (cols (boundOf body (l.take i)) (lit body k).atom.args).length
    · have := G.2 c
      exact Ev.pos (by omega) (Ev.pos (by omega) (Ev.pos h1 (last _ (decide_eq_false (by omega)))))
    · exact Ev.neg (by omega) (last _ rfl)
theorem greedy_l1 : ∀ (d i : Nat), i + d = l.length → Ev (fun n => lambrequinlaw13_PlanGreedy.l1 n true (ints l) (boundOf body (l.take i)) i p h body) true := by
  intro d
  induction d with
  | zero =>
    intro i e
    refine Ev.step (fun k => by rw [lambrequinlaw13_PlanGreedy.l1]) ?_
    exact Ev.neg (by rw [ints_len']; omega) (Ev.now _)
  | succ d ih =>
    intro i e
    obtain ⟨k, hi⟩ : ∃ k, l[i]? = some k := ⟨l[i], List.getElem?_eq_getElem (by omega)⟩
    have hkb := (T.fresh hi).1
    obtain ⟨h1, h2⟩ := ints_drop hi
    have ly : body[k]? = some (lit body k) := by rw [lit_of (List.getElem?_eq_getElem hkb)]; exact List.getElem?_eq_getElem hkb
    have hay := ha _ (List.mem_of_getElem? ly)
    have hll := T.len
    have hbl := boundOf_len body (fun y hy => by have := ha y hy; omega) (l.take i) (fun j hj => by
      obtain ⟨a, ha', rfl⟩ := List.mem_take_iff_getElem.1 hj
      exact (T.fresh (List.getElem?_eq_getElem (by omega))).1)
    have hbl2 : (boundOf body (l.take i)).length ≤ 20000 := by have : (l.take i).length ≤ 20 := by simp; omega
                                                               omega
    refine Ev.step (fun k => by rw [lambrequinlaw13_PlanGreedy.l1]) ?_
    refine Ev.pos h1 (Ev.pos (by omega) ?_)
    rw [h2]
    refine Ev.neg (by omega) (Ev.step (fun k => by rw [lambrequinlaw13_PlanGreedy.j3]) ?_)
    refine Ev.neg (by simp; omega) (Ev.pos (by omega) (Ev.pos h1 ?_))
    rw [h2]
    refine Ev.pos (by omega) (Ev.pos (by omega) ?_)
    rw [show rd_T47 body (k : Int) = lit body k from getD_at ly _, wrap_up (by omega)]
    refine Ev.bind (pCols_ev _ _ _ (by omega) (by omega)) ?_
    exact greedy_l2 p h body hl ha hk l T i k hi (ih (i + 1) (by omega)) d (i + 1) (by omega) (by omega)
end
theorem greedy_l0 (p : ByteArray) (h : List Term) (body : List Liter) (hl : body.length ≤ 20) (ha : ∀ y ∈ body, y.atom.args.length ≤ 20) :
    ∀ (d n : Nat), n + d = body.length → (∀ y ∈ body.take n, y.kind = 1) → Ev (fun k => lambrequinlaw13_PlanGreedy.l0 k true n p h body) true := by
  intro d
  induction d with
  | zero =>
    intro n e hn
    rw [List.take_of_length_le (by omega)] at hn
    obtain ⟨T, h0⟩ := order_all hn
    refine Ev.step (fun k => by rw [lambrequinlaw13_PlanGreedy.l0]) ?_
    refine Ev.neg (by omega) (Ev.pure (pOrder_eq _ _ _ _ (by omega) (fun y hy => by have := ha y hy; omega)) (Ev.pos h0 (Ev.step (fun k => by rw [lambrequinlaw13_PlanGreedy.j1]) ?_)))
    refine Ev.neg (by simp [ints_len', T.len]) ?_
    exact greedy_l1 p h body hl ha hn _ T _ 0 (Nat.zero_add _)
  | succ d ih =>
    intro n e hn
    obtain ⟨y, r, hd, hy⟩ := at_more (l := body) (n := n) (by omega)
    obtain ⟨h1, h2, h3, h4, h5⟩ := drop_more hd (by omega)
    refine Ev.step (fun k => by rw [lambrequinlaw13_PlanGreedy.l0]) ?_
    refine Ev.pos h1 (Ev.pos h2 ?_)
    rw [show rd_T47 body n = y from h3 _, h5]
    by_cases c : y.kind = 1
    · refine Ev.pos c (ih (n + 1) (by omega) fun z hz => ?_)
      rw [List.take_add_one, hy] at hz
      rcases List.mem_append.1 hz with hz | hz
      · exact hn z hz
      · simp at hz; exact hz ▸ c
    · exact Ev.neg c (Ev.now _)
theorem PlanGreedy_pure (x0 : Rule) (n1 : x0.head.args.length ≤ 9223372036854775807) (n2 : x0.body.length ≤ 9223372036854775807) :
    ∃ k, lambrequinlaw13_PlanGreedy.f k x0.head.pred x0.head.args x0.body = some true := by
  refine Ev.rounds (g := fun k => lambrequinlaw13_PlanGreedy.f k x0.head.pred x0.head.args x0.body) ?_
  unfold lambrequinlaw13_PlanGreedy.f
  refine Ev.pure rfl (Ev.bind (few_ev _ _ _ n2) ?_)
  cases hf : few20 x0.body with
  | false => exact Ev.neg (by simp) (Ev.now _)
  | true =>
    obtain ⟨hl, ha⟩ := few20_iff.1 hf
    exact Ev.pos rfl (greedy_l0 _ _ _ hl ha x0.body.length 0 (by omega) (by simp))
theorem PlanGreedy_walk (w : World) (x0 : Rule) (A0_1 : Option Addr) (c0_1 : Nat) (l0_1 : x0.head.args.length ≤ c0_1) (g0_1 : Kd.C k45 w A0_1 x0.head.args.length x0.head.args) (A0_2 : Option Addr) (c0_2 : Nat) (l0_2 : x0.body.length ≤ c0_2) (g0_2 : Kd.C k47 w A0_2 x0.body.length x0.body) :
    Calls Try.prog 7 #[.agg #[.string x0.head.pred, .slice A0_1 x0.head.args.length c0_1, .slice A0_2 x0.body.length c0_2]] w fun e w' => e = .returned (.bool true) ∧ Below w.heap.size w w' := by
  obtain ⟨k, h⟩ := PlanGreedy_pure x0 g0_1.2.1 g0_2.2.1
  exact (lambrequinlaw13_PlanGreedy.calls k x0.head.pred A0_1 c0_1 x0.head.args A0_2 c0_2 x0.body true w g0_1 l0_1 g0_2 l0_2 h).mono (fun e w' h' => ⟨h'.1, h'.2⟩)
end Go.Proofs.Ythpejcnldecmoaa.H
namespace Go.Proofs.Ythpejcnldecmoaa.planGreedy
open Go.ChangeShapes Go.WideShapes Go.ChangeAt Go.RowKit Go.Proofs.Ythpejcnldecmoaa.H Go.Proofs.YthpejcnldecmoaaW.PrintWords
open Go.ChangeMaps (open_string shut_string)
set_option linter.unusedVariables false
theorem own : ownKnob Try.prog.godebug = none := by kernel_rfl
theorem laidOut : laidOutB Try.prog = true := by kernel_rfl
set_option maxRecDepth 100000 in
theorem lifted (os : Os) (started : os.Started) (H : Type) (enc : TypeId × Value → H) :
    ReturnsInHanded {} Try.checked os 7 .any (Rows.planGreedySpec.pre6 enc Try.prog Try.f7 Rows.planGreedyRow.domain false) (Rows.planGreedySpec.post enc Try.prog Try.f7 false true false false) := by
  refine returnsInHanded_of_change_sized (C := Try.checked) own started (by kernel_rfl) Try.func7
    (ChangeSpec.witness6 (enc := enc) (C := Try.checked) false ⟨#[], #[.agg #[.string ⟨#[]⟩, .slice none 0 0, .slice none 0 0]], []⟩ 8 (by kernel_rfl) (by kernel_rfl) (by kernel_rfl) (by kernel_rfl)) ?_
  intro W base args ds gs before hval0 hW hcnd hsz0 _
  have hsz : (DataW.weightsEach Try.prog (Try.f7.params.toList ++ Rows.planGreedySpec.plain.varTypes Try.prog) (ds ++ gs)).all (· ≤ reachBytes) = true := hsz0
  have hval : ∀ (j : Nat) t v, Try.f7.params[j]? = some t → args[j]? = some v → Value.okWide Try.prog W .any base t v := hval0
  have hW' := hW
  obtain ⟨p, q, hA0, hV, rfl, hfz, hnd⟩ := hW
  have hA : DataW.TrodAll enc Try.prog W 0 (fun _ => true) true Try.f7.params.toList args.toList ds p := hA0
  rw [Try.params7] at hA hval hsz
  obtain ⟨v0, vs0, d0, ds0, p0, q0, hargs, rfl, rfl, h0, r0⟩ := trodAll_cons hA
  obtain ⟨rfl, rfl, rfl⟩ := trodAll_nil r0
  obtain rfl : args = #[v0] := by cases args; simp_all
  obtain ⟨rfl, rfl⟩ := trodVars_none hV
  have k0 := h0
  have lt0 : ∀ x ∈ p0, x.block < W.heap.size := by obtain ⟨m, hm⟩ := k0; exact DataW.trod_lt m _ _ _ hm
  obtain ⟨cs0, rfl, -⟩ := okWide_struct Try.underlying27 (hval 0 27 v0 rfl rfl)
  obtain ⟨x0, g0⟩ := opens_Rule.arg k0
  obtain ⟨A0_1, c0_1, A0_2, c0_2, e0, l0_1, g0_1, l0_2, g0_2⟩ := k27_open g0
  obtain ⟨cl0⟩ := cs0
  obtain rfl : cl0 = _ := e0
  clear hA0 hval0 hsz0 hsz
  refine (PlanGreedy_walk W x0 A0_1 c0_1 l0_1 g0_1 A0_2 c0_2 l0_2 g0_2).mono fun e W' ⟨he, bel⟩ => ?_
  subst he
  exact ⟨_, rfl, _, _, _, [], _, [], hW', trodAll_mk1 (shut_bool Try.underlying4 _), (trodAll_cons_mk (Below.trod laidOut (by kernel_rfl) (of_decide_eq_true (by kernel_rfl)) k0 bel lt0) trodAll_mk0), rfl, bel.frame _, fun h => by cases h⟩
theorem over : Rows.planGreedyRow.holds Try.pinned (OpenSpec.ofChange Rows.planGreedySpec) :=
  OpenClaim.holds_of_wide 7 Try.f7 rfl rfl rfl rfl rfl rfl rfl ⟨rfl, rfl, rfl, rfl, rfl⟩ rfl rfl rfl rfl rfl (by kernel_rfl) Try.func7 (by kernel_rfl)
    (of_decide_eq_true (by kernel_rfl)) (by unfold Func.isWrapper; first | (rw [if_pos (by decide +kernel)]; kernel_rfl) | (rw [if_neg (by decide +kernel)]; exact ⟨rfl, rfl⟩))
    (fun os started H enc _ => lifted os started H enc)
theorem proved : Rows.PlanGreedySaid := over
end Go.Proofs.Ythpejcnldecmoaa.planGreedy
namespace Go.Proofs.Ythpejcnldecmoaa
theorem planGreedy_holds : Rows.PlanGreedySaid := planGreedy.proved
#print axioms planGreedy_holds
end Go.Proofs.Ythpejcnldecmoaa

/- RowPlanEarly of the seat's law PlanEarly: the law holds, under the statement's own conditions. -/
import Derived.Test.YthpejcnldecmoaaMA
import Derived.Test.YthpejcnldecmoaaMD
import Derived.Test.YthpejcnldecmoaaMC
import Derived.Test.YthpejcnldecmoaaMB
-- made by a program of this session (wip/tools) out of the translation; Lean checks it.
namespace Go.Proofs.Ythpejcnldecmoaa.H
open Go.RowKit Go.Proofs.YthpejcnldecmoaaW.PrintWords Go.Proofs.YthpejcnldecmoaaW.PrintLast Go.Proofs.YthpejcnldecmoaaW.PrintMore
attribute [local go_sem] max2_int min2_int max_two min_two max_three min_three max_four min_four   -- for this text's walks alone
set_option linter.unusedVariables false
set_option linter.unusedSimpArgs false

/-! ### lambrequinlaw13_PlanEarly: function 5 -/
mutual
def lambrequinlaw13_PlanEarly.j0 : Nat → Bool → List Int → Int → Bool → ByteArray → List (Term) → List (Liter) → Option (Bool)
 | 0, _, _, _, _, _, _, _ => none
 | k + 1, x3, x4, x5, x30, x102000, x102001, x102002 => if x30 = true then (if x3 = true then (some (x5 != 0)) else (some false)) else (lambrequinlaw13_PlanEarly.l0 k x3 x4 ([] : List ByteArray) 0 x102000 x102001 x102002)
def lambrequinlaw13_PlanEarly.l0 : Nat → Bool → List Int → List ByteArray → Int → ByteArray → List (Term) → List (Liter) → Option (Bool)
 | 0, _, _, _, _, _, _, _ => none
 | k + 1, x3, x4, x6, x7, x102000, x102001, x102002 => if x7 < (x4.length : Int) then (if 0 ≤ x7 then (if (rd x4 x7) < 0 then (lambrequinlaw13_PlanEarly.j2 k x3 x4 x6 x7 true x102000 x102001 x102002) else (lambrequinlaw13_PlanEarly.j2 k x3 x4 x6 x7 (decide ((rd x4 x7) ≥ (x102002.length : Int))) x102000 x102001 x102002)) else (none)) else (some x3)
def lambrequinlaw13_PlanEarly.j2 : Nat → Bool → List Int → List ByteArray → Int → Bool → ByteArray → List (Term) → List (Liter) → Option (Bool)
 | 0, _, _, _, _, _, _, _, _ => none
 | k + 1, x3, x4, x6, x7, x56, x102000, x102001, x102002 => if x56 = true then (some false) else (if 0 ≤ x7 then (if x7 < (x4.length : Int) then (if 0 ≤ (rd x4 x7) then (if (rd x4 x7) < (x102002.length : Int) then (if ((rd_T47 x102002 (rd x4 x7)).kind) = 1 then (lambrequinlaw13_PlanEarly.l1 k x3 x4 x6 x7 (wrap64 (x7 + 1)) x102000 x102001 x102002 ((rd_T47 x102002 (rd x4 x7)).kind) ((rd_T47 x102002 (rd x4 x7)).atom.pred) ((rd_T47 x102002 (rd x4 x7)).atom.args) ((rd_T47 x102002 (rd x4 x7)).op) ((rd_T47 x102002 (rd x4 x7)).l.isVar) ((rd_T47 x102002 (rd x4 x7)).l.name) ((rd_T47 x102002 (rd x4 x7)).l.val.isSym) ((rd_T47 x102002 (rd x4 x7)).l.val.sym) ((rd_T47 x102002 (rd x4 x7)).l.val.n) ((rd_T47 x102002 (rd x4 x7)).r.isVar) ((rd_T47 x102002 (rd x4 x7)).r.name) ((rd_T47 x102002 (rd x4 x7)).r.val.isSym) ((rd_T47 x102002 (rd x4 x7)).r.val.sym) ((rd_T47 x102002 (rd x4 x7)).r.val.n)) else (lambrequinlaw13_PlanEarly.l0 k x3 x4 x6 (wrap64 (x7 + 1)) x102000 x102001 x102002)) else (none)) else (none)) else (none)) else (none))
def lambrequinlaw13_PlanEarly.l1 : Nat → Bool → List Int → List ByteArray → Int → Int → ByteArray → List (Term) → List (Liter) → Int → ByteArray → List (Term) → ByteArray → Bool → ByteArray → Bool → ByteArray → Int → Bool → ByteArray → Bool → ByteArray → Int → Option (Bool)
 | 0, _, _, _, _, _, _, _, _, _, _, _, _, _, _, _, _, _, _, _, _, _, _ => none
 | k + 1, x3, x4, x6, x7, x9, x102000, x102001, x102002, x113000, x113001, x113002, x113003, x113004, x113005, x113006, x113007, x113008, x113009, x113010, x113011, x113012, x113013 => if x9 < (x4.length : Int) then (if 0 ≤ x9 then (if (rd x4 x9) < 0 then (lambrequinlaw13_PlanEarly.j4 k x3 x4 x6 x7 x9 true x102000 x102001 x102002 x113000 x113001 x113002 x113003 x113004 x113005 x113006 x113007 x113008 x113009 x113010 x113011 x113012 x113013) else (lambrequinlaw13_PlanEarly.j4 k x3 x4 x6 x7 x9 (decide ((rd x4 x9) ≥ (x102002.length : Int))) x102000 x102001 x102002 x113000 x113001 x113002 x113003 x113004 x113005 x113006 x113007 x113008 x113009 x113010 x113011 x113012 x113013)) else (none)) else ((lambrequinref09_Vars.f k x113001 x113002).bind fun t113 => (if x6.length + t113.length < 8796093022208 then (lambrequinlaw13_PlanEarly.l0 k x3 x4 (x6 ++ t113) (wrap64 (x7 + 1)) x102000 x102001 x102002) else (none)))
def lambrequinlaw13_PlanEarly.j4 : Nat → Bool → List Int → List ByteArray → Int → Int → Bool → ByteArray → List (Term) → List (Liter) → Int → ByteArray → List (Term) → ByteArray → Bool → ByteArray → Bool → ByteArray → Int → Bool → ByteArray → Bool → ByteArray → Int → Option (Bool)
 | 0, _, _, _, _, _, _, _, _, _, _, _, _, _, _, _, _, _, _, _, _, _, _, _ => none
 | k + 1, x3, x4, x6, x7, x9, x90, x102000, x102001, x102002, x113000, x113001, x113002, x113003, x113004, x113005, x113006, x113007, x113008, x113009, x113010, x113011, x113012, x113013 => if x90 = true then (some false) else (if 0 ≤ x9 then (if x9 < (x4.length : Int) then (if 0 ≤ (rd x4 x9) then (if (rd x4 x9) < (x102002.length : Int) then (if ((rd_T47 x102002 (rd x4 x9)).kind) = 1 then (lambrequinlaw13_PlanEarly.j5 k x3 x4 x6 x7 x9 false x102000 x102001 x102002 x113000 x113001 x113002 x113003 x113004 x113005 x113006 x113007 x113008 x113009 x113010 x113011 x113012 x113013) else ((lambrequinref13_Terms.f ((rd_T47 x102002 (rd x4 x9)).kind) ((rd_T47 x102002 (rd x4 x9)).atom.pred) ((rd_T47 x102002 (rd x4 x9)).atom.args) ((rd_T47 x102002 (rd x4 x9)).op) ((rd_T47 x102002 (rd x4 x9)).l.isVar) ((rd_T47 x102002 (rd x4 x9)).l.name) ((rd_T47 x102002 (rd x4 x9)).l.val.isSym) ((rd_T47 x102002 (rd x4 x9)).l.val.sym) ((rd_T47 x102002 (rd x4 x9)).l.val.n) ((rd_T47 x102002 (rd x4 x9)).r.isVar) ((rd_T47 x102002 (rd x4 x9)).r.name) ((rd_T47 x102002 (rd x4 x9)).r.val.isSym) ((rd_T47 x102002 (rd x4 x9)).r.val.sym) ((rd_T47 x102002 (rd x4 x9)).r.val.n)).bind fun t124 => ((lambrequinref13_Known.f k t124 x6).bind fun t127 => (lambrequinlaw13_PlanEarly.j5 k x3 x4 x6 x7 x9 t127 x102000 x102001 x102002 x113000 x113001 x113002 x113003 x113004 x113005 x113006 x113007 x113008 x113009 x113010 x113011 x113012 x113013)))) else (none)) else (none)) else (none)) else (none))
def lambrequinlaw13_PlanEarly.j5 : Nat → Bool → List Int → List ByteArray → Int → Int → Bool → ByteArray → List (Term) → List (Liter) → Int → ByteArray → List (Term) → ByteArray → Bool → ByteArray → Bool → ByteArray → Int → Bool → ByteArray → Bool → ByteArray → Int → Option (Bool)
 | 0, _, _, _, _, _, _, _, _, _, _, _, _, _, _, _, _, _, _, _, _, _, _, _ => none
 | k + 1, x3, x4, x6, x7, x9, x107, x102000, x102001, x102002, x113000, x113001, x113002, x113003, x113004, x113005, x113006, x113007, x113008, x113009, x113010, x113011, x113012, x113013 => if x107 = true then (some false) else (lambrequinlaw13_PlanEarly.l1 k x3 x4 x6 x7 (wrap64 (x9 + 1)) x102000 x102001 x102002 x113000 x113001 x113002 x113003 x113004 x113005 x113006 x113007 x113008 x113009 x113010 x113011 x113012 x113013)
end
def lambrequinlaw13_PlanEarly.f (k : Nat) (a0_0 : ByteArray) (l0_1 : List (Term)) (l0_2 : List (Liter)) : Option (Bool) := (lambrequinlaw13_shown.f).bind fun t102 => ((lambrequinlaw13_few.f k a0_0 l0_1 l0_2).bind fun t103 => (if t103 = true then ((plan_Order.f a0_0 l0_1 l0_2 (-1)).bind fun bt104 => (if bt104.2 = 0 then (lambrequinlaw13_PlanEarly.j0 k t102 bt104.1 bt104.2 ((bt104.1.length : Int) != (l0_2.length : Int)) a0_0 l0_1 l0_2) else (lambrequinlaw13_PlanEarly.j0 k t102 bt104.1 bt104.2 true a0_0 l0_1 l0_2))) else (some t102)))
theorem lambrequinlaw13_PlanEarly.mono_l : ∀ k, (∀ y0 y1 y2 y3 y4 y5 y6, LeO (lambrequinlaw13_PlanEarly.j0 k y0 y1 y2 y3 y4 y5 y6) (lambrequinlaw13_PlanEarly.j0 (k + 1) y0 y1 y2 y3 y4 y5 y6)) ∧ (∀ y0 y1 y2 y3 y4 y5 y6, LeO (lambrequinlaw13_PlanEarly.l0 k y0 y1 y2 y3 y4 y5 y6) (lambrequinlaw13_PlanEarly.l0 (k + 1) y0 y1 y2 y3 y4 y5 y6)) ∧ (∀ y0 y1 y2 y3 y4 y5 y6 y7, LeO (lambrequinlaw13_PlanEarly.j2 k y0 y1 y2 y3 y4 y5 y6 y7) (lambrequinlaw13_PlanEarly.j2 (k + 1) y0 y1 y2 y3 y4 y5 y6 y7)) ∧ (∀ y0 y1 y2 y3 y4 y5 y6 y7 y8 y9 y10 y11 y12 y13 y14 y15 y16 y17 y18 y19 y20 y21, LeO (lambrequinlaw13_PlanEarly.l1 k y0 y1 y2 y3 y4 y5 y6 y7 y8 y9 y10 y11 y12 y13 y14 y15 y16 y17 y18 y19 y20 y21) (lambrequinlaw13_PlanEarly.l1 (k + 1) y0 y1 y2 y3 y4 y5 y6 y7 y8 y9 y10 y11 y12 y13 y14 y15 y16 y17 y18 y19 y20 y21)) ∧ (∀ y0 y1 y2 y3 y4 y5 y6 y7 y8 y9 y10 y11 y12 y13 y14 y15 y16 y17 y18 y19 y20 y21 y22, LeO (lambrequinlaw13_PlanEarly.j4 k y0 y1 y2 y3 y4 y5 y6 y7 y8 y9 y10 y11 y12 y13 y14 y15 y16 y17 y18 y19 y20 y21 y22) (lambrequinlaw13_PlanEarly.j4 (k + 1) y0 y1 y2 y3 y4 y5 y6 y7 y8 y9 y10 y11 y12 y13 y14 y15 y16 y17 y18 y19 y20 y21 y22)) ∧ (∀ y0 y1 y2 y3 y4 y5 y6 y7 y8 y9 y10 y11 y12 y13 y14 y15 y16 y17 y18 y19 y20 y21 y22, LeO (lambrequinlaw13_PlanEarly.j5 k y0 y1 y2 y3 y4 y5 y6 y7 y8 y9 y10 y11 y12 y13 y14 y15 y16 y17 y18 y19 y20 y21 y22) (lambrequinlaw13_PlanEarly.j5 (k + 1) y0 y1 y2 y3 y4 y5 y6 y7 y8 y9 y10 y11 y12 y13 y14 y15 y16 y17 y18 y19 y20 y21 y22))
 | 0 => ⟨fun _ _ _ _ _ _ _ r h => by simp [lambrequinlaw13_PlanEarly.j0] at h, fun _ _ _ _ _ _ _ r h => by simp [lambrequinlaw13_PlanEarly.l0] at h, fun _ _ _ _ _ _ _ _ r h => by simp [lambrequinlaw13_PlanEarly.j2] at h, fun _ _ _ _ _ _ _ _ _ _ _ _ _ _ _ _ _ _ _ _ _ _ r h => by simp [lambrequinlaw13_PlanEarly.l1] at h, fun _ _ _ _ _ _ _ _ _ _ _ _ _ _ _ _ _ _ _ _ _ _ _ r h => by simp [lambrequinlaw13_PlanEarly.j4] at h, fun _ _ _ _ _ _ _ _ _ _ _ _ _ _ _ _ _ _ _ _ _ _ _ r h => by simp [lambrequinlaw13_PlanEarly.j5] at h⟩
 | k + 1 => by
  obtain ⟨ih0, ih1, ih2, ih3, ih4, ih5⟩ := lambrequinlaw13_PlanEarly.mono_l k
  refine ⟨?_, ?_, ?_, ?_, ?_, ?_⟩
  ·intro y0 y1 y2 y3 y4 y5 y6
   unfold lambrequinlaw13_PlanEarly.j0
   repeat' first
   | (with_reducible exact ih0 _ _ _ _ _ _ _)
   | (with_reducible exact ih1 _ _ _ _ _ _ _)
   | (with_reducible exact ih2 _ _ _ _ _ _ _ _)
   | (with_reducible exact ih3 _ _ _ _ _ _ _ _ _ _ _ _ _ _ _ _ _ _ _ _ _ _)
   | (with_reducible exact ih4 _ _ _ _ _ _ _ _ _ _ _ _ _ _ _ _ _ _ _ _ _ _ _)
   | (with_reducible exact ih5 _ _ _ _ _ _ _ _ _ _ _ _ _ _ _ _ _ _ _ _ _ _ _)
   | (with_reducible exact lambrequinlaw13_few.mono _ _ _ _)
   | (with_reducible exact lambrequinref09_Vars.mono _ _ _)
   | (with_reducible exact lambrequinref13_Known.mono _ _ _)
   | (with_reducible exact LeO.refl _)
   | (with_reducible exact LeO.none _)
   | (with_reducible refine LeO.ite ?_ ?_)
   | (with_reducible refine LeO.bind ?_ (fun _ => ?_))
   | exact ih0 _ _ _ _ _ _ _
   | exact ih1 _ _ _ _ _ _ _
   | exact ih2 _ _ _ _ _ _ _ _
   | exact ih3 _ _ _ _ _ _ _ _ _ _ _ _ _ _ _ _ _ _ _ _ _ _
   | exact ih4 _ _ _ _ _ _ _ _ _ _ _ _ _ _ _ _ _ _ _ _ _ _ _
   | exact ih5 _ _ _ _ _ _ _ _ _ _ _ _ _ _ _ _ _ _ _ _ _ _ _
   | exact lambrequinlaw13_few.mono _ _ _ _
   | exact lambrequinref09_Vars.mono _ _ _
   | exact lambrequinref13_Known.mono _ _ _
   | exact LeO.none _
   | refine LeO.ite ?_ ?_
   | refine LeO.bind ?_ (fun _ => ?_)
  ·intro y0 y1 y2 y3 y4 y5 y6
   unfold lambrequinlaw13_PlanEarly.l0
   repeat' first
   | (with_reducible exact ih0 _ _ _ _ _ _ _)
   | (with_reducible exact ih1 _ _ _ _ _ _ _)
   | (with_reducible exact ih2 _ _ _ _ _ _ _ _)
   | (with_reducible exact ih3 _ _ _ _ _ _ _ _ _ _ _ _ _ _ _ _ _ _ _ _ _ _)
   | (with_reducible exact ih4 _ _ _ _ _ _ _ _ _ _ _ _ _ _ _ _ _ _ _ _ _ _ _)
   | (with_reducible exact ih5 _ _ _ _ _ _ _ _ _ _ _ _ _ _ _ _ _ _ _ _ _ _ _)
   | (with_reducible exact lambrequinlaw13_few.mono _ _ _ _)
   | (with_reducible exact lambrequinref09_Vars.mono _ _ _)
   | (with_reducible exact lambrequinref13_Known.mono _ _ _)
   | (with_reducible exact LeO.refl _)
   | (with_reducible exact LeO.none _)
   | (with_reducible refine LeO.ite ?_ ?_)
   | (with_reducible refine LeO.bind ?_ (fun _ => ?_))
   | exact ih0 _ _ _ _ _ _ _
   | exact ih1 _ _ _ _ _ _ _
   | exact ih2 _ _ _ _ _ _ _ _
   | exact ih3 _ _ _ _ _ _ _ _ _ _ _ _ _ _ _ _ _ _ _ _ _ _
   | exact ih4 _ _ _ _ _ _ _ _ _ _ _ _ _ _ _ _ _ _ _ _ _ _ _
   | exact ih5 _ _ _ _ _ _ _ _ _ _ _ _ _ _ _ _ _ _ _ _ _ _ _
   | exact lambrequinlaw13_few.mono _ _ _ _
   | exact lambrequinref09_Vars.mono _ _ _
   | exact lambrequinref13_Known.mono _ _ _
   | exact LeO.none _
   | refine LeO.ite ?_ ?_
   | refine LeO.bind ?_ (fun _ => ?_)
  ·intro y0 y1 y2 y3 y4 y5 y6 y7
   unfold lambrequinlaw13_PlanEarly.j2
   repeat' first
   | (with_reducible exact ih0 _ _ _ _ _ _ _)
   | (with_reducible exact ih1 _ _ _ _ _ _ _)
   | (with_reducible exact ih2 _ _ _ _ _ _ _ _)
   | (with_reducible exact ih3 _ _ _ _ _ _ _ _ _ _ _ _ _ _ _ _ _ _ _ _ _ _)
   | (with_reducible exact ih4 _ _ _ _ _ _ _ _ _ _ _ _ _ _ _ _ _ _ _ _ _ _ _)
   | (with_reducible exact ih5 _ _ _ _ _ _ _ _ _ _ _ _ _ _ _ _ _ _ _ _ _ _ _)
   | (with_reducible exact lambrequinlaw13_few.mono _ _ _ _)
   | (with_reducible exact lambrequinref09_Vars.mono _ _ _)
   | (with_reducible exact lambrequinref13_Known.mono _ _ _)
   | (with_reducible exact LeO.refl _)
   | (with_reducible exact LeO.none _)
   | (with_reducible refine LeO.ite ?_ ?_)
   | (with_reducible refine LeO.bind ?_ (fun _ => ?_))
   | exact ih0 _ _ _ _ _ _ _
   | exact ih1 _ _ _ _ _ _ _
   | exact ih2 _ _ _ _ _ _ _ _
   | exact ih3 _ _ _ _ _ _ _ _ _ _ _ _ _ _ _ _ _ _ _ _ _ _
   | exact ih4 _ _ _ _ _ _ _ _ _ _ _ _ _ _ _ _ _ _ _ _ _ _ _
   | exact ih5 _ _ _ _ _ _ _ _ _ _ _ _ _ _ _ _ _ _ _ _ _ _ _
   | exact lambrequinlaw13_few.mono _ _ _ _
   | exact lambrequinref09_Vars.mono _ _ _
   | exact lambrequinref13_Known.mono _ _ _
   | exact LeO.none _
   | refine LeO.ite ?_ ?_
   | refine LeO.bind ?_ (fun _ => ?_)
  ·intro y0 y1 y2 y3 y4 y5 y6 y7 y8 y9 y10 y11 y12 y13 y14 y15 y16 y17 y18 y19 y20 y21
   unfold lambrequinlaw13_PlanEarly.l1
   repeat' first
   | (with_reducible exact ih0 _ _ _ _ _ _ _)
   | (with_reducible exact ih1 _ _ _ _ _ _ _)
   | (with_reducible exact ih2 _ _ _ _ _ _ _ _)
   | (with_reducible exact ih3 _ _ _ _ _ _ _ _ _ _ _ _ _ _ _ _ _ _ _ _ _ _)
   | (with_reducible exact ih4 _ _ _ _ _ _ _ _ _ _ _ _ _ _ _ _ _ _ _ _ _ _ _)
   | (with_reducible exact ih5 _ _ _ _ _ _ _ _ _ _ _ _ _ _ _ _ _ _ _ _ _ _ _)
   | (with_reducible exact lambrequinlaw13_few.mono _ _ _ _)
   | (with_reducible exact lambrequinref09_Vars.mono _ _ _)
   | (with_reducible exact lambrequinref13_Known.mono _ _ _)
   | (with_reducible exact LeO.refl _)
   | (with_reducible exact LeO.none _)
   | (with_reducible refine LeO.ite ?_ ?_)
   | (with_reducible refine LeO.bind ?_ (fun _ => ?_))
   | exact ih0 _ _ _ _ _ _ _
   | exact ih1 _ _ _ _ _ _ _
   | exact ih2 _ _ _ _ _ _ _ _
   | exact ih3 _ _ _ _ _ _ _ _ _ _ _ _ _ _ _ _ _ _ _ _ _ _
   | exact ih4 _ _ _ _ _ _ _ _ _ _ _ _ _ _ _ _ _ _ _ _ _ _ _
   | exact ih5 _ _ _ _ _ _ _ _ _ _ _ _ _ _ _ _ _ _ _ _ _ _ _
   | exact lambrequinlaw13_few.mono _ _ _ _
   | exact lambrequinref09_Vars.mono _ _ _
   | exact lambrequinref13_Known.mono _ _ _
   | exact LeO.none _
   | refine LeO.ite ?_ ?_
   | refine LeO.bind ?_ (fun _ => ?_)
  ·intro y0 y1 y2 y3 y4 y5 y6 y7 y8 y9 y10 y11 y12 y13 y14 y15 y16 y17 y18 y19 y20 y21 y22
   unfold lambrequinlaw13_PlanEarly.j4
   repeat' first
   | (with_reducible exact ih0 _ _ _ _ _ _ _)
   | (with_reducible exact ih1 _ _ _ _ _ _ _)
   | (with_reducible exact ih2 _ _ _ _ _ _ _ _)
   | (with_reducible exact ih3 _ _ _ _ _ _ _ _ _ _ _ _ _ _ _ _ _ _ _ _ _ _)
   | (with_reducible exact ih4 _ _ _ _ _ _ _ _ _ _ _ _ _ _ _ _ _ _ _ _ _ _ _)
   | (with_reducible exact ih5 _ _ _ _ _ _ _ _ _ _ _ _ _ _ _ _ _ _ _ _ _ _ _)
   | (with_reducible exact lambrequinlaw13_few.mono _ _ _ _)
   | (with_reducible exact lambrequinref09_Vars.mono _ _ _)
   | (with_reducible exact lambrequinref13_Known.mono _ _ _)
   | (with_reducible exact LeO.refl _)
   | (with_reducible exact LeO.none _)
   | (with_reducible refine LeO.ite ?_ ?_)
   | (with_reducible refine LeO.bind ?_ (fun _ => ?_))
   | exact ih0 _ _ _ _ _ _ _
   | exact ih1 _ _ _ _ _ _ _
   | exact ih2 _ _ _ _ _ _ _ _
   | exact ih3 _ _ _ _ _ _ _ _ _ _ _ _ _ _ _ _ _ _ _ _ _ _
   | exact ih4 _ _ _ _ _ _ _ _ _ _ _ _ _ _ _ _ _ _ _ _ _ _ _
   | exact ih5 _ _ _ _ _ _ _ _ _ _ _ _ _ _ _ _ _ _ _ _ _ _ _
   | exact lambrequinlaw13_few.mono _ _ _ _
   | exact lambrequinref09_Vars.mono _ _ _
   | exact lambrequinref13_Known.mono _ _ _
   | exact LeO.none _
   | refine LeO.ite ?_ ?_
   | refine LeO.bind ?_ (fun _ => ?_)
  ·intro y0 y1 y2 y3 y4 y5 y6 y7 y8 y9 y10 y11 y12 y13 y14 y15 y16 y17 y18 y19 y20 y21 y22
   unfold lambrequinlaw13_PlanEarly.j5
   repeat' first
   | (with_reducible exact ih0 _ _ _ _ _ _ _)
   | (with_reducible exact ih1 _ _ _ _ _ _ _)
   | (with_reducible exact ih2 _ _ _ _ _ _ _ _)
   | (with_reducible exact ih3 _ _ _ _ _ _ _ _ _ _ _ _ _ _ _ _ _ _ _ _ _ _)
   | (with_reducible exact ih4 _ _ _ _ _ _ _ _ _ _ _ _ _ _ _ _ _ _ _ _ _ _ _)
   | (with_reducible exact ih5 _ _ _ _ _ _ _ _ _ _ _ _ _ _ _ _ _ _ _ _ _ _ _)
   | (with_reducible exact lambrequinlaw13_few.mono _ _ _ _)
   | (with_reducible exact lambrequinref09_Vars.mono _ _ _)
   | (with_reducible exact lambrequinref13_Known.mono _ _ _)
   | (with_reducible exact LeO.refl _)
   | (with_reducible exact LeO.none _)
   | (with_reducible refine LeO.ite ?_ ?_)
   | (with_reducible refine LeO.bind ?_ (fun _ => ?_))
   | exact ih0 _ _ _ _ _ _ _
   | exact ih1 _ _ _ _ _ _ _
   | exact ih2 _ _ _ _ _ _ _ _
   | exact ih3 _ _ _ _ _ _ _ _ _ _ _ _ _ _ _ _ _ _ _ _ _ _
   | exact ih4 _ _ _ _ _ _ _ _ _ _ _ _ _ _ _ _ _ _ _ _ _ _ _
   | exact ih5 _ _ _ _ _ _ _ _ _ _ _ _ _ _ _ _ _ _ _ _ _ _ _
   | exact lambrequinlaw13_few.mono _ _ _ _
   | exact lambrequinref09_Vars.mono _ _ _
   | exact lambrequinref13_Known.mono _ _ _
   | exact LeO.none _
   | refine LeO.ite ?_ ?_
   | refine LeO.bind ?_ (fun _ => ?_)
theorem lambrequinlaw13_PlanEarly.mono : ∀ a0 a1 a2 k, LeO (lambrequinlaw13_PlanEarly.f k a0 a1 a2) (lambrequinlaw13_PlanEarly.f (k + 1) a0 a1 a2) := by
 intro a0 a1 a2 k
 obtain ⟨ih0, ih1, ih2, ih3, ih4, ih5⟩ := lambrequinlaw13_PlanEarly.mono_l k
 unfold lambrequinlaw13_PlanEarly.f
 repeat' first
   | (with_reducible exact ih0 _ _ _ _ _ _ _)
   | (with_reducible exact ih1 _ _ _ _ _ _ _)
   | (with_reducible exact ih2 _ _ _ _ _ _ _ _)
   | (with_reducible exact ih3 _ _ _ _ _ _ _ _ _ _ _ _ _ _ _ _ _ _ _ _ _ _)
   | (with_reducible exact ih4 _ _ _ _ _ _ _ _ _ _ _ _ _ _ _ _ _ _ _ _ _ _ _)
   | (with_reducible exact ih5 _ _ _ _ _ _ _ _ _ _ _ _ _ _ _ _ _ _ _ _ _ _ _)
   | (with_reducible exact lambrequinlaw13_few.mono _ _ _ _)
   | (with_reducible exact lambrequinref09_Vars.mono _ _ _)
   | (with_reducible exact lambrequinref13_Known.mono _ _ _)
   | (with_reducible exact LeO.refl _)
   | (with_reducible exact LeO.none _)
   | (with_reducible refine LeO.ite ?_ ?_)
   | (with_reducible refine LeO.bind ?_ (fun _ => ?_))
   | exact ih0 _ _ _ _ _ _ _
   | exact ih1 _ _ _ _ _ _ _
   | exact ih2 _ _ _ _ _ _ _ _
   | exact ih3 _ _ _ _ _ _ _ _ _ _ _ _ _ _ _ _ _ _ _ _ _ _
   | exact ih4 _ _ _ _ _ _ _ _ _ _ _ _ _ _ _ _ _ _ _ _ _ _ _
   | exact ih5 _ _ _ _ _ _ _ _ _ _ _ _ _ _ _ _ _ _ _ _ _ _ _
   | exact lambrequinlaw13_few.mono _ _ _ _
   | exact lambrequinref09_Vars.mono _ _ _
   | exact lambrequinref13_Known.mono _ _ _
   | exact LeO.none _
   | refine LeO.ite ?_ ?_
   | refine LeO.bind ?_ (fun _ => ?_)
def lambrequinlaw13_PlanEarly.T11 : Bool × List (List Nat × List Nat) := (true, [([], []), ([], []), ([0, 1], [0, 1]), ([2], [2]), ([3], [3]), ([4], [4]), ([5], [5]), ([5], [5]), ([6, 7, 5], [5, 6, 7]), ([8, 5], [5, 8]), ([5], [5]), ([10, 5], [5, 10]), ([11, 5], [5, 11]), ([9, 12, 5], [5, 9, 12]), ([5, 13], [5, 13])])
def lambrequinlaw13_PlanEarly.B11 : List Nat := [0, 0, 3, 7, 15, 31, 63, 63, 255, 511, 63, 1087, 3135, 8191, 16383]
theorem lambrequinlaw13_PlanEarly.tab11 : rtab .any (opsOf Try.f5 11) = lambrequinlaw13_PlanEarly.T11 := by kernel_rfl
theorem lambrequinlaw13_PlanEarly.bits11 : waitsOk lambrequinlaw13_PlanEarly.T11.2 lambrequinlaw13_PlanEarly.B11 = true := by kernel_rfl
def lambrequinlaw13_PlanEarly.T13 : Bool × List (List Nat × List Nat) := (true, [([], []), ([0], [0]), ([], []), ([], []), ([2, 3], [2, 3]), ([4], [4]), ([1, 5], [1, 5]), ([6], [6]), ([], []), ([8, 7, 0, 1, 2, 3, 4, 5, 6, 7, 8], [7, 8])])
def lambrequinlaw13_PlanEarly.B13 : List Nat := [0, 1, 0, 0, 12, 28, 63, 127, 0, 511]
theorem lambrequinlaw13_PlanEarly.tab13 : rtab .any (opsOf Try.f5 13) = lambrequinlaw13_PlanEarly.T13 := by kernel_rfl
theorem lambrequinlaw13_PlanEarly.bits13 : waitsOk lambrequinlaw13_PlanEarly.T13.2 lambrequinlaw13_PlanEarly.B13 = true := by kernel_rfl
def lambrequinlaw13_PlanEarly.T18 : Bool × List (List Nat × List Nat) := (true, [([], []), ([], []), ([0, 1], [0, 1]), ([2], [2]), ([3], [3]), ([4], [4]), ([5], [5]), ([5], [5]), ([6, 7, 5], [5, 6, 7]), ([8, 5], [5, 8]), ([5], [5]), ([10, 5], [5, 10]), ([11, 5], [5, 11]), ([9, 12, 5], [5, 9, 12]), ([5, 13], [5, 13])])
def lambrequinlaw13_PlanEarly.B18 : List Nat := [0, 0, 3, 7, 15, 31, 63, 63, 255, 511, 63, 1087, 3135, 8191, 16383]
theorem lambrequinlaw13_PlanEarly.tab18 : rtab .any (opsOf Try.f5 18) = lambrequinlaw13_PlanEarly.T18 := by kernel_rfl
theorem lambrequinlaw13_PlanEarly.bits18 : waitsOk lambrequinlaw13_PlanEarly.T18.2 lambrequinlaw13_PlanEarly.B18 = true := by kernel_rfl
def lambrequinlaw13_PlanEarly.T20 : Bool × List (List Nat × List Nat) := (true, [([], []), ([0], [0]), ([], []), ([], []), ([2, 3], [2, 3]), ([4], [4]), ([1, 5], [1, 5]), ([6], [6]), ([], []), ([8, 7, 0, 1, 2, 3, 4, 5, 6, 7, 8], [7, 8])])
def lambrequinlaw13_PlanEarly.B20 : List Nat := [0, 1, 0, 0, 12, 28, 63, 127, 0, 511]
theorem lambrequinlaw13_PlanEarly.tab20 : rtab .any (opsOf Try.f5 20) = lambrequinlaw13_PlanEarly.T20 := by kernel_rfl
theorem lambrequinlaw13_PlanEarly.bits20 : waitsOk lambrequinlaw13_PlanEarly.T20.2 lambrequinlaw13_PlanEarly.B20 = true := by kernel_rfl

end Go.Proofs.Ythpejcnldecmoaa.H

/- RowCfgLeads of the seat's law CfgLeads: the law holds, under the statement's own conditions. -/
import Derived.Test.YtnepgcbgkhikkaaNA
import Derived.Test.YtnepgcbgkhikkaaNC
import Derived.Test.YtnepgcbgkhikkaaNXCfgLeads
import Derived.Test.YtnepgcbgkhikkaaNB
import Derived.Test.YtnepgcbgkhikkaaND
namespace Go.Proofs.Ytnepgcbgkhikkaa.H
open Go.RowKit Go.Proofs.YtnepgcbgkhikkaaW.PrintWords Go.Proofs.YtnepgcbgkhikkaaW.PrintLast Go.Proofs.YtnepgcbgkhikkaaW.PrintMore
attribute [local go_sem] max2_int min2_int max_two min_two max_three min_three max_four min_four
set_option linter.unusedVariables false
set_option linter.unusedSimpArgs false
def lambrequinlaw20_CfgLeads.j0 : Nat → List (Stmt) → Int → Bool → ByteArray → Bool → ByteArray → Bool → Int → ByteArray → ByteArray → ByteArray → ByteArray → Int → Int → Int → Option (Bool)
 | 0, _, _, _, _, _, _, _, _, _, _, _, _, _, _, _ => none
 | k + 1, x0, x1, x7, x8, x9, x10, x11, x102000, x102001, x102002, x102003, x102004, x102005, x102006, x102007 => if x7 = true then ((cfg_Next.f x0 x1).bind fun t107 => ((lambrequinref20_Next.f k x0 x1).bind fun t110 => ((lambrequinref10_Ints.f k t107 t110).bind fun t113 => (if t113 = true then ((cfg_Prev.f k x0 x1).bind fun t114 => ((lambrequinref20_Prev.f k x0 x1).bind fun t117 => ((lambrequinref10_Ints.f k t114 t117).bind fun t120 => (if t120 = true then (if x8.toList = x10.toList then (if (x9 == x11) = true then ((cfg_Uses.f x102000 x102001 x102002 x102003 x102004 x102005 x102006 x102007).bind fun t121 => ((lambrequinref20_Uses.f k x102000 x102001 x102002 x102003 x102004 x102005 x102006 x102007).bind fun t124 => ((lambrequinref09_Same.f k t121 t124).bind fun t127 => (if t127 = true then ((cfg_Names.f k x0).bind fun t128 => ((lambrequinref20_Names.f k x0).bind fun t131 => ((lambrequinref09_Same.f k t128 t131).bind fun t134 => (some t134)))) else (some false))))) else (some false)) else (some false)) else (some false))))) else (some false))))) else (some false)
def lambrequinlaw20_CfgLeads.f (k : Nat) (l0 : List (Stmt)) (a1 : Int) (a2_0 : Int) (a2_1 : ByteArray) (a2_2 : ByteArray) (a2_3 : ByteArray) (a2_4 : ByteArray) (a2_5 : Int) (a2_6 : Int) (a2_7 : Int) : Option (Bool) := (lambrequinlaw20_shown.f k).bind fun t102 => (if (l0.length : Int) > 60 then (some t102) else ((cfg_Def.f a2_0 a2_1 a2_2 a2_3 a2_4 a2_5 a2_6 a2_7).bind fun bt103 => ((lambrequinref20_Def.f a2_0 a2_1 a2_2 a2_3 a2_4 a2_5 a2_6 a2_7).bind fun bt105 => (lambrequinlaw20_CfgLeads.j0 k l0 a1 t102 bt103.1 bt103.2 bt105.1 bt105.2 a2_0 a2_1 a2_2 a2_3 a2_4 a2_5 a2_6 a2_7))))
theorem lambrequinlaw20_CfgLeads.mono_l : ∀ k, (∀ y0 y1 y2 y3 y4 y5 y6 y7 y8 y9 y10 y11 y12 y13 y14, LeO (lambrequinlaw20_CfgLeads.j0 k y0 y1 y2 y3 y4 y5 y6 y7 y8 y9 y10 y11 y12 y13 y14) (lambrequinlaw20_CfgLeads.j0 (k + 1) y0 y1 y2 y3 y4 y5 y6 y7 y8 y9 y10 y11 y12 y13 y14))
 | 0 => fun _ _ _ _ _ _ _ _ _ _ _ _ _ _ _ r h => by simp [lambrequinlaw20_CfgLeads.j0] at h
 | k + 1 => by
  have ih0 := lambrequinlaw20_CfgLeads.mono_l k
  ·intro y0 y1 y2 y3 y4 y5 y6 y7 y8 y9 y10 y11 y12 y13 y14
   unfold lambrequinlaw20_CfgLeads.j0
   repeat' first
   | (with_reducible exact ih0 _ _ _ _ _ _ _ _ _ _ _ _ _ _ _)
   | (with_reducible exact cfg_Names.mono _ _)
   | (with_reducible exact cfg_Prev.mono _ _ _)
   | (with_reducible exact lambrequinlaw20_shown.mono _)
   | (with_reducible exact lambrequinref09_Same.mono _ _ _)
   | (with_reducible exact lambrequinref10_Ints.mono _ _ _)
   | (with_reducible exact lambrequinref20_Names.mono _ _)
   | (with_reducible exact lambrequinref20_Next.mono _ _ _)
   | (with_reducible exact lambrequinref20_Prev.mono _ _ _)
   | (with_reducible exact lambrequinref20_Uses.mono _ _ _ _ _ _ _ _ _)
   | (with_reducible exact LeO.refl _)
   | (with_reducible exact LeO.none _)
   | (with_reducible refine LeO.ite ?_ ?_)
   | (with_reducible refine LeO.bind ?_ (fun _ => ?_))
   | exact ih0 _ _ _ _ _ _ _ _ _ _ _ _ _ _ _
   | exact cfg_Names.mono _ _
   | exact cfg_Prev.mono _ _ _
   | exact lambrequinlaw20_shown.mono _
   | exact lambrequinref09_Same.mono _ _ _
   | exact lambrequinref10_Ints.mono _ _ _
   | exact lambrequinref20_Names.mono _ _
   | exact lambrequinref20_Next.mono _ _ _
   | exact lambrequinref20_Prev.mono _ _ _
   | exact lambrequinref20_Uses.mono _ _ _ _ _ _ _ _ _
   | exact LeO.none _
   | refine LeO.ite ?_ ?_
   | refine LeO.bind ?_ (fun _ => ?_)
theorem lambrequinlaw20_CfgLeads.mono : ∀ a0 a1 a2 a3 a4 a5 a6 a7 a8 a9 k, LeO (lambrequinlaw20_CfgLeads.f k a0 a1 a2 a3 a4 a5 a6 a7 a8 a9) (lambrequinlaw20_CfgLeads.f (k + 1) a0 a1 a2 a3 a4 a5 a6 a7 a8 a9) := by
 intro a0 a1 a2 a3 a4 a5 a6 a7 a8 a9 k
 have ih0 := lambrequinlaw20_CfgLeads.mono_l k
 unfold lambrequinlaw20_CfgLeads.f
 repeat' first
   | (with_reducible exact ih0 _ _ _ _ _ _ _ _ _ _ _ _ _ _ _)
   | (with_reducible exact cfg_Names.mono _ _)
   | (with_reducible exact cfg_Prev.mono _ _ _)
   | (with_reducible exact lambrequinlaw20_shown.mono _)
   | (with_reducible exact lambrequinref09_Same.mono _ _ _)
   | (with_reducible exact lambrequinref10_Ints.mono _ _ _)
   | (with_reducible exact lambrequinref20_Names.mono _ _)
   | (with_reducible exact lambrequinref20_Next.mono _ _ _)
   | (with_reducible exact lambrequinref20_Prev.mono _ _ _)
   | (with_reducible exact lambrequinref20_Uses.mono _ _ _ _ _ _ _ _ _)
   | (with_reducible exact LeO.refl _)
   | (with_reducible exact LeO.none _)
   | (with_reducible refine LeO.ite ?_ ?_)
   | (with_reducible refine LeO.bind ?_ (fun _ => ?_))
   | exact ih0 _ _ _ _ _ _ _ _ _ _ _ _ _ _ _
   | exact cfg_Names.mono _ _
   | exact cfg_Prev.mono _ _ _
   | exact lambrequinlaw20_shown.mono _
   | exact lambrequinref09_Same.mono _ _ _
   | exact lambrequinref10_Ints.mono _ _ _
   | exact lambrequinref20_Names.mono _ _
   | exact lambrequinref20_Next.mono _ _ _
   | exact lambrequinref20_Prev.mono _ _ _
   | exact lambrequinref20_Uses.mono _ _ _ _ _ _ _ _ _
   | exact LeO.none _
   | refine LeO.ite ?_ ?_
   | refine LeO.bind ?_ (fun _ => ?_)
def lambrequinlaw20_CfgLeads.T6 : Bool × List (List Nat × List Nat) := (true, [([], []), ([0], [0]), ([1], [1]), ([1], [1]), ([2, 3, 1, 1], [1, 2, 3]), ([1], [1]), ([1], [1]), ([5, 6, 4, 1], [1, 5, 6]), ([4, 7, 7, 1], [1, 4, 7]), ([1, 8], [1, 8]), ([9, 8], [9]), ([10], [10]), ([10], [10]), ([11, 12, 10, 10], [10, 11, 12]), ([10], [10]), ([10], [10]), ([14, 15, 13, 10], [10, 14, 15]), ([13, 16, 16, 10], [10, 13, 16]), ([10, 17], [10, 17]), ([18, 17], [18]), ([19], [19]), ([19], [19]), ([20, 21, 19], [19, 20, 21]), ([19, 22], [19, 22]), ([23, 19], [23]), ([24], [24]), ([24], [24]), ([25, 26, 24], [24, 25, 26]), ([24, 27], [24, 27]), ([28, 24], [28]), ([29], [29]), ([30, 29, 29], [29, 30]), ([29], [29]), ([32, 31, 29], [29, 32]), ([31, 33, 33, 29], [29, 31, 33]), ([29, 34], [29, 34]), ([35, 34], [35]), ([36], [36]), ([37, 36, 36], [36, 37]), ([36], [36]), ([39, 38, 36], [36, 39]), ([38, 40, 40, 36], [36, 38, 40]), ([36, 41], [36, 41]), ([42, 41, 0, 1, 2, 3, 4, 5, 6, 7, 8, 9, 10, 11, 12, 13, 14, 15, 16, 17, 18, 19, 20, 21, 22, 23, 24, 25, 26, 27, 28, 29, 30, 31, 32, 33, 34, 35, 36, 37, 38, 39, 40, 41, 42], [42])])
def lambrequinlaw20_CfgLeads.B6 : List Nat := [0, 1, 3, 3, 15, 3, 3, 127, 255, 511, 1023, 2047, 2047, 8191, 2047, 2047, 65535, 131071, 262143, 524287, 1048575, 1048575, 4194303, 8388607, 16777215, 33554431, 33554431, 134217727, 268435455, 536870911, 1073741823, 2147483647, 1073741823, 8589934591, 17179869183, 34359738367, 68719476735, 137438953471, 274877906943, 137438953471, 1099511627775, 2199023255551, 4398046511103, 8796093022207]
theorem lambrequinlaw20_CfgLeads.tab6 : rtab .any (opsOf Try.f6 6) = lambrequinlaw20_CfgLeads.T6 := by kernel_rfl
theorem lambrequinlaw20_CfgLeads.bits6 : waitsOk lambrequinlaw20_CfgLeads.T6.2 lambrequinlaw20_CfgLeads.B6 = true := by kernel_rfl
end Go.Proofs.Ytnepgcbgkhikkaa.H

/- RowSafeBinds of the seat's law SafeBinds: the law holds, under the statement's own conditions. -/
import Derived.Test.YthpejcnldecmoaaMA
import Derived.Test.YthpejcnldecmoaaMF
import Derived.Test.YthpejcnldecmoaaMD
namespace Go.Proofs.Ythpejcnldecmoaa.H
abbrev tt : Bool := true
abbrev ff : Bool := false
end Go.Proofs.Ythpejcnldecmoaa.H
namespace Go.Proofs.Ythpejcnldecmoaa.H
open Go.RowKit Go.Proofs.YthpejcnldecmoaaW.PrintWords Go.Proofs.YthpejcnldecmoaaW.PrintLast Go.Proofs.YthpejcnldecmoaaW.PrintMore
attribute [local go_sem] max2_int min2_int max_two min_two max_three min_three max_four min_four
set_option linter.unusedVariables false
set_option linter.unusedSimpArgs false
mutual
def lambrequinlaw09_SafeBinds.j0 : Nat → Bool → ByteArray → List (Term) → List (Liter) → ByteArray → List (Term) → Option (Bool)
 | 0, _, _, _, _, _, _ => none
 | k + 1, x5, x102000, x102001, x102002, x103000, x103001 => (lambrequinlaw09_few.f k x102000 x102001 x102002).bind fun t104 => (if t104 = true then (lambrequinlaw09_SafeBinds.j1 k x5 (decide ((x103001.length : Int) > 30)) x102000 x102001 x102002 x103000 x103001) else (lambrequinlaw09_SafeBinds.j1 k x5 true x102000 x102001 x102002 x103000 x103001))
def lambrequinlaw09_SafeBinds.j1 : Nat → Bool → Bool → ByteArray → List (Term) → List (Liter) → ByteArray → List (Term) → Option (Bool)
 | 0, _, _, _, _, _, _, _ => none
 | k + 1, x5, x30, x102000, x102001, x102002, x103000, x103001 => if x30 = true then (some x5) else ((some (([] : List (Term)) : List (Term))).bind fun y105 => (if y105.length + x102001.length < 2513169434916 then (lambrequinlaw09_SafeBinds.l0 k x5 (y105 ++ x102001) 0 x102000 x102001 x102002 x103000 x103001) else (none)))
def lambrequinlaw09_SafeBinds.l0 : Nat → Bool → List (Term) → Int → ByteArray → List (Term) → List (Liter) → ByteArray → List (Term) → Option (Bool)
 | 0, _, _, _, _, _, _, _, _ => none
 | k + 1, x5, x6, x7, x102000, x102001, x102002, x103000, x103001 => if x7 < (x102002.length : Int) then (if 0 ≤ x7 then ((some (([(⟨(rd_T47 x102002 x7).l.isVar, (rd_T47 x102002 x7).l.name, (⟨(rd_T47 x102002 x7).l.val.isSym, (rd_T47 x102002 x7).l.val.sym, (rd_T47 x102002 x7).l.val.n⟩ : Val)⟩ : Term), (⟨(rd_T47 x102002 x7).r.isVar, (rd_T47 x102002 x7).r.name, (⟨(rd_T47 x102002 x7).r.val.isSym, (rd_T47 x102002 x7).r.val.sym, (rd_T47 x102002 x7).r.val.n⟩ : Val)⟩ : Term)] : List (Term)) : List (Term))).bind fun y113 => (if x6.length + y113.length < 2513169434916 then ((some (x6 ++ y113 : List (Term))).bind fun y116 => (if y116.length + ((rd_T47 x102002 x7).atom.args).length < 2513169434916 then (lambrequinlaw09_SafeBinds.l0 k x5 (y116 ++ ((rd_T47 x102002 x7).atom.args)) (wrap64 (x7 + 1)) x102000 x102001 x102002 x103000 x103001) else (none))) else (none))) else (none)) else ((safe_Check.f k x102000 x102001 x102002).bind fun bt123 => ((some (([] : List (Liter)) : List (Liter))).bind fun y126 => (if y126.length + x102002.length < 799644820200 then ((some (y126 ++ x102002 : List (Liter))).bind fun y129 => ((some (([(⟨1, (⟨(⟨#[97, 108, 108]⟩ : ByteArray), x6⟩ : Atom), (⟨#[]⟩ : ByteArray), (⟨false, (⟨#[]⟩ : ByteArray), (⟨false, (⟨#[]⟩ : ByteArray), 0⟩ : Val)⟩ : Term), (⟨false, (⟨#[]⟩ : ByteArray), (⟨false, (⟨#[]⟩ : ByteArray), 0⟩ : Val)⟩ : Term)⟩ : Liter)] : List (Liter)) : List (Liter))).bind fun y132 => (if y129.length + y132.length < 799644820200 then ((safe_Check.f k x102000 x102001 (y129 ++ y132)).bind fun bt138 => ((some (([] : List (Liter)) : List (Liter))).bind fun y141 => (if y141.length + x102002.length < 799644820200 then ((some (y141 ++ x102002 : List (Liter))).bind fun y144 => ((some (([(⟨1, (⟨x103000, x103001⟩ : Atom), (⟨#[]⟩ : ByteArray), (⟨false, (⟨#[]⟩ : ByteArray), (⟨false, (⟨#[]⟩ : ByteArray), 0⟩ : Val)⟩ : Term), (⟨false, (⟨#[]⟩ : ByteArray), (⟨false, (⟨#[]⟩ : ByteArray), 0⟩ : Val)⟩ : Term)⟩ : Liter)] : List (Liter)) : List (Liter))).bind fun y147 => (if y144.length + y147.length < 799644820200 then ((safe_Check.f k x102000 x102001 (y144 ++ y147)).bind fun bt153 => ((safe_Check.f k x103000 x103001 ([] : List (Liter))).bind fun bt156 => ((safe_Vars.f k x103000 x103001).bind fun t159 => (lambrequinlaw09_SafeBinds.j3 k x5 bt123.2.2 bt138.2.2 bt153.2.2 bt156.2.1 bt156.2.2 ((t159.length : Int) == 0))))) else (none)))) else (none)))) else (none)))) else (none))))
def lambrequinlaw09_SafeBinds.j3 : Nat → Bool → Int → Int → Int → Int → Int → Bool → Option (Bool)
 | 0, _, _, _, _, _, _, _ => none
 | k + 1, x5, x10, x13, x16, x18, x19, x20 => if x5 = true then (if x13 = 0 then (if x10 = 0 then (if x16 = 0 then (if ((x19 == 0) == x20) = true then (if x20 = true then (some true) else (some (x18 == (-1)))) else (some false)) else (some false)) else (if ((x19 == 0) == x20) = true then (if x20 = true then (some true) else (some (x18 == (-1)))) else (some false))) else (some false)) else (some false)
end
def lambrequinlaw09_SafeBinds.f (k : Nat) (a0_0 : ByteArray) (l0_1 : List (Term)) (l0_2 : List (Liter)) (a1_0 : ByteArray) (l1_1 : List (Term)) : Option (Bool) := (lambrequinlaw09_shown.f).bind fun t103 => (lambrequinlaw09_SafeBinds.j0 k t103 a0_0 l0_1 l0_2 a1_0 l1_1)
theorem lambrequinlaw09_SafeBinds.mono_l : ∀ k, (∀ y0 y1 y2 y3 y4 y5, LeO (lambrequinlaw09_SafeBinds.j0 k y0 y1 y2 y3 y4 y5) (lambrequinlaw09_SafeBinds.j0 (k + 1) y0 y1 y2 y3 y4 y5)) ∧ (∀ y0 y1 y2 y3 y4 y5 y6, LeO (lambrequinlaw09_SafeBinds.j1 k y0 y1 y2 y3 y4 y5 y6) (lambrequinlaw09_SafeBinds.j1 (k + 1) y0 y1 y2 y3 y4 y5 y6)) ∧ (∀ y0 y1 y2 y3 y4 y5 y6 y7, LeO (lambrequinlaw09_SafeBinds.l0 k y0 y1 y2 y3 y4 y5 y6 y7) (lambrequinlaw09_SafeBinds.l0 (k + 1) y0 y1 y2 y3 y4 y5 y6 y7)) ∧ (∀ y0 y1 y2 y3 y4 y5 y6, LeO (lambrequinlaw09_SafeBinds.j3 k y0 y1 y2 y3 y4 y5 y6) (lambrequinlaw09_SafeBinds.j3 (k + 1) y0 y1 y2 y3 y4 y5 y6))
 | 0 => ⟨fun _ _ _ _ _ _ r h => by simp [lambrequinlaw09_SafeBinds.j0] at h, fun _ _ _ _ _ _ _ r h => by simp [lambrequinlaw09_SafeBinds.j1] at h, fun _ _ _ _ _ _ _ _ r h => by simp [lambrequinlaw09_SafeBinds.l0] at h, fun _ _ _ _ _ _ _ r h => by simp [lambrequinlaw09_SafeBinds.j3] at h⟩
 | k + 1 => by
  obtain ⟨ih0, ih1, ih2, ih3⟩ := lambrequinlaw09_SafeBinds.mono_l k
  refine ⟨?_, ?_, ?_, ?_⟩
  ·intro y0 y1 y2 y3 y4 y5
   unfold lambrequinlaw09_SafeBinds.j0
   repeat' first
   | (with_reducible exact ih0 _ _ _ _ _ _)
   | (with_reducible exact ih1 _ _ _ _ _ _ _)
   | (with_reducible exact ih2 _ _ _ _ _ _ _ _)
   | (with_reducible exact ih3 _ _ _ _ _ _ _)
   | (with_reducible exact lambrequinlaw09_few.mono _ _ _ _)
   | (with_reducible exact safe_Check.mono _ _ _ _)
   | (with_reducible exact safe_Vars.mono _ _ _)
   | (with_reducible exact LeO.refl _)
   | (with_reducible exact LeO.none _)
   | (with_reducible refine LeO.ite ?_ ?_)
   | (with_reducible refine LeO.bind ?_ (fun _ => ?_))
   | exact ih0 _ _ _ _ _ _
   | exact ih1 _ _ _ _ _ _ _
   | exact ih2 _ _ _ _ _ _ _ _
   | exact ih3 _ _ _ _ _ _ _
   | exact lambrequinlaw09_few.mono _ _ _ _
   | exact safe_Check.mono _ _ _ _
   | exact safe_Vars.mono _ _ _
   | exact LeO.none _
   | refine LeO.ite ?_ ?_
   | refine LeO.bind ?_ (fun _ => ?_)
  ·intro y0 y1 y2 y3 y4 y5 y6
   unfold lambrequinlaw09_SafeBinds.j1
   repeat' first
   | (with_reducible exact ih0 _ _ _ _ _ _)
   | (with_reducible exact ih1 _ _ _ _ _ _ _)
   | (with_reducible exact ih2 _ _ _ _ _ _ _ _)
   | (with_reducible exact ih3 _ _ _ _ _ _ _)
   | (with_reducible exact lambrequinlaw09_few.mono _ _ _ _)
   | (with_reducible exact safe_Check.mono _ _ _ _)
   | (with_reducible exact safe_Vars.mono _ _ _)
   | (with_reducible exact LeO.refl _)
   | (with_reducible exact LeO.none _)
   | (with_reducible refine LeO.ite ?_ ?_)
   | (with_reducible refine LeO.bind ?_ (fun _ => ?_))
   | exact ih0 _ _ _ _ _ _
   | exact ih1 _ _ _ _ _ _ _
   | exact ih2 _ _ _ _ _ _ _ _
   | exact ih3 _ _ _ _ _ _ _
   | exact lambrequinlaw09_few.mono _ _ _ _
   | exact safe_Check.mono _ _ _ _
   | exact safe_Vars.mono _ _ _
   | exact LeO.none _
   | refine LeO.ite ?_ ?_
   | refine LeO.bind ?_ (fun _ => ?_)
  ·intro y0 y1 y2 y3 y4 y5 y6 y7
   unfold lambrequinlaw09_SafeBinds.l0
   repeat' first
   | (with_reducible exact ih0 _ _ _ _ _ _)
   | (with_reducible exact ih1 _ _ _ _ _ _ _)
   | (with_reducible exact ih2 _ _ _ _ _ _ _ _)
   | (with_reducible exact ih3 _ _ _ _ _ _ _)
   | (with_reducible exact lambrequinlaw09_few.mono _ _ _ _)
   | (with_reducible exact safe_Check.mono _ _ _ _)
   | (with_reducible exact safe_Vars.mono _ _ _)
   | (with_reducible exact LeO.refl _)
   | (with_reducible exact LeO.none _)
   | (with_reducible refine LeO.ite ?_ ?_)
   | (with_reducible refine LeO.bind ?_ (fun _ => ?_))
   | exact ih0 _ _ _ _ _ _
   | exact ih1 _ _ _ _ _ _ _
   | exact ih2 _ _ _ _ _ _ _ _
   | exact ih3 _ _ _ _ _ _ _
   | exact lambrequinlaw09_few.mono _ _ _ _
   | exact safe_Check.mono _ _ _ _
   | exact safe_Vars.mono _ _ _
   | exact LeO.none _
   | refine LeO.ite ?_ ?_
   | refine LeO.bind ?_ (fun _ => ?_)
  ·intro y0 y1 y2 y3 y4 y5 y6
   unfold lambrequinlaw09_SafeBinds.j3
   repeat' first
   | (with_reducible exact ih0 _ _ _ _ _ _)
   | (with_reducible exact ih1 _ _ _ _ _ _ _)
   | (with_reducible exact ih2 _ _ _ _ _ _ _ _)
   | (with_reducible exact ih3 _ _ _ _ _ _ _)
   | (with_reducible exact lambrequinlaw09_few.mono _ _ _ _)
   | (with_reducible exact safe_Check.mono _ _ _ _)
   | (with_reducible exact safe_Vars.mono _ _ _)
   | (with_reducible exact LeO.refl _)
   | (with_reducible exact LeO.none _)
   | (with_reducible refine LeO.ite ?_ ?_)
   | (with_reducible refine LeO.bind ?_ (fun _ => ?_))
   | exact ih0 _ _ _ _ _ _
   | exact ih1 _ _ _ _ _ _ _
   | exact ih2 _ _ _ _ _ _ _ _
   | exact ih3 _ _ _ _ _ _ _
   | exact lambrequinlaw09_few.mono _ _ _ _
   | exact safe_Check.mono _ _ _ _
   | exact safe_Vars.mono _ _ _
   | exact LeO.none _
   | refine LeO.ite ?_ ?_
   | refine LeO.bind ?_ (fun _ => ?_)
theorem lambrequinlaw09_SafeBinds.mono : ∀ a0 a1 a2 a3 a4 k, LeO (lambrequinlaw09_SafeBinds.f k a0 a1 a2 a3 a4) (lambrequinlaw09_SafeBinds.f (k + 1) a0 a1 a2 a3 a4) := by
 intro a0 a1 a2 a3 a4 k
 obtain ⟨ih0, ih1, ih2, ih3⟩ := lambrequinlaw09_SafeBinds.mono_l k
 unfold lambrequinlaw09_SafeBinds.f
 repeat' first
   | (with_reducible exact ih0 _ _ _ _ _ _)
   | (with_reducible exact ih1 _ _ _ _ _ _ _)
   | (with_reducible exact ih2 _ _ _ _ _ _ _ _)
   | (with_reducible exact ih3 _ _ _ _ _ _ _)
   | (with_reducible exact lambrequinlaw09_few.mono _ _ _ _)
   | (with_reducible exact safe_Check.mono _ _ _ _)
   | (with_reducible exact safe_Vars.mono _ _ _)
   | (with_reducible exact LeO.refl _)
   | (with_reducible exact LeO.none _)
   | (with_reducible refine LeO.ite ?_ ?_)
   | (with_reducible refine LeO.bind ?_ (fun _ => ?_))
   | exact ih0 _ _ _ _ _ _
   | exact ih1 _ _ _ _ _ _ _
   | exact ih2 _ _ _ _ _ _ _ _
   | exact ih3 _ _ _ _ _ _ _
   | exact lambrequinlaw09_few.mono _ _ _ _
   | exact safe_Check.mono _ _ _ _
   | exact safe_Vars.mono _ _ _
   | exact LeO.none _
   | refine LeO.ite ?_ ?_
   | refine LeO.bind ?_ (fun _ => ?_)
def lambrequinlaw09_SafeBinds.T8 : Bool × List (List Nat × List Nat) := (true, [([], []), ([], []), ([1], [1]), ([], []), ([2, 3], [2, 3]), ([4], [4]), ([5], [5]), ([], []), ([7], [7]), ([], []), ([8, 9], [8, 9]), ([10], [10]), ([11], [11]), ([6, 12], [6, 12]), ([0, 13], [0, 13]), ([14, 14, 0, 1, 2, 3, 4, 5, 6, 7, 8, 9, 10, 11, 12, 13, 14], [0, 14])])
def lambrequinlaw09_SafeBinds.B8 : List Nat := [0, 0, 2, 0, 14, 30, 62, 0, 128, 0, 896, 1920, 3968, 8190, 16383, 32767]
theorem lambrequinlaw09_SafeBinds.tab8 : rtab .any (opsOf Try.f10 8) = lambrequinlaw09_SafeBinds.T8 := by kernel_rfl
theorem lambrequinlaw09_SafeBinds.bits8 : waitsOk lambrequinlaw09_SafeBinds.T8.2 lambrequinlaw09_SafeBinds.B8 = true := by kernel_rfl
def lambrequinlaw09_SafeBinds.T11 : Bool × List (List Nat × List Nat) := (true, [([], []), ([0], [0]), ([], []), ([], []), ([3], [3]), ([2, 4], [2, 4]), ([], []), ([6], [6]), ([7], [7]), ([8], [8]), ([5, 9, 5], [5, 9]), ([1, 10], [1, 10]), ([11, 10], [11]), ([12], [12]), ([13], [13]), ([13], [13]), ([13], [13]), ([14, 12, 0, 1, 2, 3, 4, 5, 6, 7, 8, 9, 10, 11, 12, 13, 14], [14]), ([15, 17, 0, 1, 2, 3, 4, 5, 6, 7, 8, 9, 10, 11, 12, 13, 14, 15, 17], [15]), ([16, 18, 0, 1, 2, 3, 4, 5, 6, 7, 8, 9, 10, 11, 12, 13, 14, 15, 16, 17, 18], [16])])
def lambrequinlaw09_SafeBinds.B11 : List Nat := [0, 1, 0, 0, 8, 28, 0, 64, 192, 448, 1020, 2047, 4095, 8191, 16383, 16383, 16383, 32767, 196607, 524287]
theorem lambrequinlaw09_SafeBinds.tab11 : rtab .any (opsOf Try.f10 11) = lambrequinlaw09_SafeBinds.T11 := by kernel_rfl
theorem lambrequinlaw09_SafeBinds.bits11 : waitsOk lambrequinlaw09_SafeBinds.T11.2 lambrequinlaw09_SafeBinds.B11 = true := by kernel_rfl
def lambrequinlaw09_SafeBinds.T12 : Bool × List (List Nat × List Nat) := (true, [([], []), ([0], [0]), ([], []), ([], []), ([3], [3]), ([2, 4], [2, 4]), ([], []), ([6], [6]), ([7], [7]), ([5, 8, 5], [5, 8]), ([1, 9], [1, 9]), ([10, 9], [10]), ([11], [11]), ([12], [12]), ([12], [12]), ([12], [12]), ([13, 11, 0, 1, 2, 3, 4, 5, 6, 7, 8, 9, 10, 11, 12, 13], [13]), ([14, 16, 0, 1, 2, 3, 4, 5, 6, 7, 8, 9, 10, 11, 12, 13, 14, 16], [14]), ([15, 17, 0, 1, 2, 3, 4, 5, 6, 7, 8, 9, 10, 11, 12, 13, 14, 15, 16, 17], [15])])
def lambrequinlaw09_SafeBinds.B12 : List Nat := [0, 1, 0, 0, 8, 28, 0, 64, 192, 508, 1023, 2047, 4095, 8191, 8191, 8191, 16383, 98303, 262143]
theorem lambrequinlaw09_SafeBinds.tab12 : rtab .any (opsOf Try.f10 12) = lambrequinlaw09_SafeBinds.T12 := by kernel_rfl
theorem lambrequinlaw09_SafeBinds.bits12 : waitsOk lambrequinlaw09_SafeBinds.T12.2 lambrequinlaw09_SafeBinds.B12 = true := by kernel_rfl
end Go.Proofs.Ythpejcnldecmoaa.H

/- RowInterpMore of the seat's law InterpMore: the law holds, under the statement's own conditions. -/
import Derived.Test.YtnepgcbgkhikkaaNXInterpMore
import Derived.Test.YtnepgcbgkhikkaaNXInterpMore1
namespace Go.Proofs.Ytnepgcbgkhikkaa.H
open Go.RowKit Go.Proofs.YtnepgcbgkhikkaaW.PrintWords Go.Proofs.YtnepgcbgkhikkaaW.PrintLast Go.Proofs.YtnepgcbgkhikkaaW.PrintMore
attribute [local go_sem] max2_int min2_int max_two min_two max_three min_three max_four min_four
set_option linter.unusedVariables false
set_option linter.unusedSimpArgs false
attribute [local go_sem high] eqA54
mutual
def lambrequinlaw22_InterpMore.j0 : Nat → Bool → List (Visit) → List (Visit) → List (Visit) → Bool → Option (Bool)
 | 0, _, _, _, _, _ => none
 | k + 1, x5, x6, x7, x8, x63 => if x63 = true then (some false) else (lambrequinlaw22_InterpMore.l0 k x5 x6 x7 x8 0)
def lambrequinlaw22_InterpMore.l0 : Nat → Bool → List (Visit) → List (Visit) → List (Visit) → Int → Option (Bool)
 | 0, _, _, _, _, _ => none
 | k + 1, x5, x6, x7, x8, x9 => if x9 < (x6.length : Int) then (if 0 ≤ x9 then (if x9 < (x7.length : Int) then (if ((rd_T52 x6 x9).place) = ((rd_T52 x7 x9).place) then (if x9 < (x8.length : Int) then (if ((rd_T52 x6 x9).place) = ((rd_T52 x8 x9).place) then (if (((rd_T52 x6 x9).vars).length : Int) = (((rd_T52 x7 x9).vars).length : Int) then (lambrequinlaw22_InterpMore.j2 k x5 x6 x7 x8 x9 ((((rd_T52 x6 x9).vars).length : Int) != (((rd_T52 x8 x9).vars).length : Int))) else (lambrequinlaw22_InterpMore.j2 k x5 x6 x7 x8 x9 true)) else (lambrequinlaw22_InterpMore.j2 k x5 x6 x7 x8 x9 true)) else (none)) else (lambrequinlaw22_InterpMore.j2 k x5 x6 x7 x8 x9 true)) else (none)) else (none)) else (some x5)
def lambrequinlaw22_InterpMore.j2 : Nat → Bool → List (Visit) → List (Visit) → List (Visit) → Int → Bool → Option (Bool)
 | 0, _, _, _, _, _, _ => none
 | k + 1, x5, x6, x7, x8, x9, x123 => if x123 = true then (some false) else (lambrequinlaw22_InterpMore.l1 k x5 x6 x7 x8 x9 0)
def lambrequinlaw22_InterpMore.l1 : Nat → Bool → List (Visit) → List (Visit) → List (Visit) → Int → Int → Option (Bool)
 | 0, _, _, _, _, _, _ => none
 | k + 1, x5, x6, x7, x8, x9, x10 => if 0 ≤ x9 then (if x9 < (x6.length : Int) then (if x10 < (((rd_T52 x6 x9).vars).length : Int) then (if 0 ≤ x10 then (if x9 < (x7.length : Int) then (if x10 < (((rd_T52 x7 x9).vars).length : Int) then (if (!((((rd_T54 ((rd_T52 x6 x9).vars) x10).name).toList) == (((rd_T54 ((rd_T52 x7 x9).vars) x10).name).toList)) || (!(((rd_T54 ((rd_T52 x6 x9).vars) x10).n) == ((rd_T54 ((rd_T52 x7 x9).vars) x10).n)) || (!(((rd_T54 ((rd_T52 x6 x9).vars) x10).last) == ((rd_T54 ((rd_T52 x7 x9).vars) x10).last)) || (!(((rd_T54 ((rd_T52 x6 x9).vars) x10).taint) == ((rd_T54 ((rd_T52 x7 x9).vars) x10).taint)))))) = true then (some false) else (if x9 < (x8.length : Int) then (if x10 < (((rd_T52 x8 x9).vars).length : Int) then (if (!((((rd_T54 ((rd_T52 x6 x9).vars) x10).name).toList) == (((rd_T54 ((rd_T52 x8 x9).vars) x10).name).toList)) || (!(((rd_T54 ((rd_T52 x6 x9).vars) x10).n) == ((rd_T54 ((rd_T52 x8 x9).vars) x10).n)) || (!(((rd_T54 ((rd_T52 x6 x9).vars) x10).last) == ((rd_T54 ((rd_T52 x8 x9).vars) x10).last)) || (!(((rd_T54 ((rd_T52 x6 x9).vars) x10).taint) == ((rd_T54 ((rd_T52 x8 x9).vars) x10).taint)))))) = true then (some false) else (lambrequinlaw22_InterpMore.l1 k x5 x6 x7 x8 x9 (wrap64 (x10 + 1)))) else (none)) else (none))) else (none)) else (none)) else (none)) else (lambrequinlaw22_InterpMore.l0 k x5 x6 x7 x8 (wrap64 (x9 + 1)))) else (none)) else (none)
end
def lambrequinlaw22_InterpMore.f (k : Nat) (l0_0 : List (Stmt)) (l0_1 : List Int) (l0_2 : List Bool) (a0_3 : Int) (a1 : Int) : Option (Bool) := (lambrequinlaw22_shown.f).bind fun t302 => ((lambrequinlaw22_few.f l0_0 l0_1 l0_2 a0_3).bind fun t303 => (if t303 = true then ((interp_Run.f l0_0 l0_1 l0_2 a0_3).bind fun t304 => ((interp_Run.f l0_0 l0_1 l0_2 (wrap64 ((mx a0_3 0) + (wrap64 (Int.tmod a1 20))))).bind fun t307 => ((some (([] : List Int) : List Int)).bind fun y310 => (if y310.length + l0_1.length < 17592186044416 then ((some (y310 ++ l0_1 : List Int)).bind fun y313 => ((some (([0, 0] : List Int) : List Int)).bind fun y316 => (if y313.length + y316.length < 17592186044416 then ((interp_Run.f l0_0 (y313 ++ y316) l0_2 a0_3).bind fun t322 => (if (t304.length : Int) > (t307.length : Int) then (lambrequinlaw22_InterpMore.j0 k t302 t304 t307 t322 true) else (lambrequinlaw22_InterpMore.j0 k t302 t304 t307 t322 ((t304.length : Int) != (t322.length : Int))))) else (none)))) else (none))))) else (some t302)))
theorem lambrequinlaw22_InterpMore.mono_l : ∀ k, (∀ y0 y1 y2 y3 y4, LeO (lambrequinlaw22_InterpMore.j0 k y0 y1 y2 y3 y4) (lambrequinlaw22_InterpMore.j0 (k + 1) y0 y1 y2 y3 y4)) ∧ (∀ y0 y1 y2 y3 y4, LeO (lambrequinlaw22_InterpMore.l0 k y0 y1 y2 y3 y4) (lambrequinlaw22_InterpMore.l0 (k + 1) y0 y1 y2 y3 y4)) ∧ (∀ y0 y1 y2 y3 y4 y5, LeO (lambrequinlaw22_InterpMore.j2 k y0 y1 y2 y3 y4 y5) (lambrequinlaw22_InterpMore.j2 (k + 1) y0 y1 y2 y3 y4 y5)) ∧ (∀ y0 y1 y2 y3 y4 y5, LeO (lambrequinlaw22_InterpMore.l1 k y0 y1 y2 y3 y4 y5) (lambrequinlaw22_InterpMore.l1 (k + 1) y0 y1 y2 y3 y4 y5))
 | 0 => ⟨fun _ _ _ _ _ r h => by simp [lambrequinlaw22_InterpMore.j0] at h, fun _ _ _ _ _ r h => by simp [lambrequinlaw22_InterpMore.l0] at h, fun _ _ _ _ _ _ r h => by simp [lambrequinlaw22_InterpMore.j2] at h, fun _ _ _ _ _ _ r h => by simp [lambrequinlaw22_InterpMore.l1] at h⟩
 | k + 1 => by
  obtain ⟨ih0, ih1, ih2, ih3⟩ := lambrequinlaw22_InterpMore.mono_l k
  refine ⟨?_, ?_, ?_, ?_⟩
  ·intro y0 y1 y2 y3 y4
   unfold lambrequinlaw22_InterpMore.j0
   repeat' first
   | (with_reducible exact ih0 _ _ _ _ _)
   | (with_reducible exact ih1 _ _ _ _ _)
   | (with_reducible exact ih2 _ _ _ _ _ _)
   | (with_reducible exact ih3 _ _ _ _ _ _)
   | (with_reducible exact LeO.refl _)
   | (with_reducible exact LeO.none _)
   | (with_reducible refine LeO.ite ?_ ?_)
   | (with_reducible refine LeO.bind ?_ (fun _ => ?_))
   | exact ih0 _ _ _ _ _
   | exact ih1 _ _ _ _ _
   | exact ih2 _ _ _ _ _ _
   | exact ih3 _ _ _ _ _ _
   | exact LeO.none _
   | refine LeO.ite ?_ ?_
   | refine LeO.bind ?_ (fun _ => ?_)
  ·intro y0 y1 y2 y3 y4
   unfold lambrequinlaw22_InterpMore.l0
   repeat' first
   | (with_reducible exact ih0 _ _ _ _ _)
   | (with_reducible exact ih1 _ _ _ _ _)
   | (with_reducible exact ih2 _ _ _ _ _ _)
   | (with_reducible exact ih3 _ _ _ _ _ _)
   | (with_reducible exact LeO.refl _)
   | (with_reducible exact LeO.none _)
   | (with_reducible refine LeO.ite ?_ ?_)
   | (with_reducible refine LeO.bind ?_ (fun _ => ?_))
   | exact ih0 _ _ _ _ _
   | exact ih1 _ _ _ _ _
   | exact ih2 _ _ _ _ _ _
   | exact ih3 _ _ _ _ _ _
   | exact LeO.none _
   | refine LeO.ite ?_ ?_
   | refine LeO.bind ?_ (fun _ => ?_)
  ·intro y0 y1 y2 y3 y4 y5
   unfold lambrequinlaw22_InterpMore.j2
   repeat' first
   | (with_reducible exact ih0 _ _ _ _ _)
   | (with_reducible exact ih1 _ _ _ _ _)
   | (with_reducible exact ih2 _ _ _ _ _ _)
   | (with_reducible exact ih3 _ _ _ _ _ _)
   | (with_reducible exact LeO.refl _)
   | (with_reducible exact LeO.none _)
   | (with_reducible refine LeO.ite ?_ ?_)
   | (with_reducible refine LeO.bind ?_ (fun _ => ?_))
   | exact ih0 _ _ _ _ _
   | exact ih1 _ _ _ _ _
   | exact ih2 _ _ _ _ _ _
   | exact ih3 _ _ _ _ _ _
   | exact LeO.none _
   | refine LeO.ite ?_ ?_
   | refine LeO.bind ?_ (fun _ => ?_)
  intro y0 y1 y2 y3 y4 y5
  unfold lambrequinlaw22_InterpMore.l1
  repeat' first
  | (with_reducible exact ih0 _ _ _ _ _)
  | (with_reducible exact ih1 _ _ _ _ _)
  | (with_reducible exact ih2 _ _ _ _ _ _)
  | (with_reducible exact ih3 _ _ _ _ _ _)
  | (with_reducible exact LeO.refl _)
  | (with_reducible exact LeO.none _)
  | (with_reducible refine LeO.ite ?_ ?_)
  | (with_reducible refine LeO.bind ?_ (fun _ => ?_))
  | exact ih0 _ _ _ _ _
  | exact ih1 _ _ _ _ _
  | exact ih2 _ _ _ _ _ _
  | exact ih3 _ _ _ _ _ _
  | exact LeO.none _
  | refine LeO.ite ?_ ?_
  | refine LeO.bind ?_ (fun _ => ?_)
theorem lambrequinlaw22_InterpMore.mono : ∀ a0 a1 a2 a3 a4 k, LeO (lambrequinlaw22_InterpMore.f k a0 a1 a2 a3 a4) (lambrequinlaw22_InterpMore.f (k + 1) a0 a1 a2 a3 a4) := by
 intro a0 a1 a2 a3 a4 k
 obtain ⟨ih0, ih1, ih2, ih3⟩ := lambrequinlaw22_InterpMore.mono_l k
 unfold lambrequinlaw22_InterpMore.f
 repeat' first
   | (with_reducible exact ih0 _ _ _ _ _)
   | (with_reducible exact ih1 _ _ _ _ _)
   | (with_reducible exact ih2 _ _ _ _ _ _)
   | (with_reducible exact ih3 _ _ _ _ _ _)
   | (with_reducible exact LeO.refl _)
   | (with_reducible exact LeO.none _)
   | (with_reducible refine LeO.ite ?_ ?_)
   | (with_reducible refine LeO.bind ?_ (fun _ => ?_))
   | exact ih0 _ _ _ _ _
   | exact ih1 _ _ _ _ _
   | exact ih2 _ _ _ _ _ _
   | exact ih3 _ _ _ _ _ _
   | exact LeO.none _
   | refine LeO.ite ?_ ?_
   | refine LeO.bind ?_ (fun _ => ?_)
def lambrequinlaw22_InterpMore.T6 : Bool × List (List Nat × List Nat) := (true, [([], []), ([0], [0]), ([], []), ([], []), ([3], [3]), ([2, 4], [2, 4]), ([], []), ([5, 6, 5], [5, 6]), ([], []), ([8], [8]), ([], []), ([10], [10]), ([1, 7, 9, 11, 7], [1, 7, 9, 11]), ([12, 12, 0, 1, 2, 3, 4, 5, 6, 7, 8, 9, 10, 11, 12], [12])])
def lambrequinlaw22_InterpMore.B6 : List Nat := [0, 1, 0, 0, 8, 28, 0, 124, 0, 256, 0, 1024, 4095, 8191]
theorem lambrequinlaw22_InterpMore.tab6 : rtab .any (opsOf Try.f8 6) = lambrequinlaw22_InterpMore.T6 := by kernel_rfl
theorem lambrequinlaw22_InterpMore.bits6 : waitsOk lambrequinlaw22_InterpMore.T6.2 lambrequinlaw22_InterpMore.B6 = true := by kernel_rfl
def lambrequinlaw22_InterpMore.T12 : Bool × List (List Nat × List Nat) := (true, [([], []), ([], []), ([0, 1], [0, 1]), ([2], [2]), ([3], [3]), ([], []), ([], []), ([5, 6], [5, 6]), ([7], [7]), ([8], [8]), ([4, 9], [4, 9]), ([10], [10]), ([11], [11]), ([11], [11]), ([12, 13, 11], [11, 12, 13]), ([14, 11], [11, 14]), ([15, 11], [11, 15]), ([11], [11]), ([11], [11]), ([17, 18, 11], [11, 17, 18]), ([19, 11], [11, 19]), ([20, 11], [11, 20]), ([16, 21, 11], [11, 16, 21]), ([11, 22], [11, 22]), ([23, 11], [23]), ([24], [24]), ([24], [24]), ([25, 26, 24], [24, 25, 26]), ([27, 24], [24, 27]), ([28, 24], [24, 28]), ([29, 24], [24, 29]), ([24], [24]), ([24], [24]), ([31, 32, 24], [24, 31, 32]), ([33, 24], [24, 33]), ([34, 24], [24, 34]), ([35, 24], [24, 35]), ([30, 36, 24], [24, 30, 36]), ([24, 37], [24, 37]), ([38, 24], [38]), ([39], [39]), ([39], [39]), ([40, 41, 39], [39, 40, 41]), ([42, 39], [39, 42]), ([43, 39], [39, 43]), ([44, 39], [39, 44]), ([39], [39]), ([39], [39]), ([46, 47, 39], [39, 46, 47]), ([48, 39], [39, 48]), ([49, 39], [39, 49]), ([50, 39], [39, 50]), ([45, 51, 39], [39, 45, 51]), ([39, 52], [39, 52])])
def lambrequinlaw22_InterpMore.B12 : List Nat := [0, 0, 3, 7, 15, 0, 0, 96, 224, 480, 1023, 2047, 4095, 4095, 16383, 32767, 65535, 4095, 4095, 397311, 921599, 1970175, 4194303, 8388607, 16777215, 33554431, 33554431, 134217727, 268435455, 536870911, 1073741823, 33554431, 33554431, 6476005375, 15065939967, 32245809151, 66605547519, 137438953471, 274877906943, 549755813887, 1099511627775, 1099511627775, 4398046511103, 8796093022207, 17592186044415, 35184372088831, 1099511627775, 1099511627775, 212205744160767, 493680720871423, 1056630674292735, 2182530581135359, 4503599627370495, 9007199254740991]
theorem lambrequinlaw22_InterpMore.tab12 : rtab .any (opsOf Try.f8 12) = lambrequinlaw22_InterpMore.T12 := by kernel_rfl
theorem lambrequinlaw22_InterpMore.bits12 : waitsOk lambrequinlaw22_InterpMore.T12.2 lambrequinlaw22_InterpMore.B12 = true := by kernel_rfl
def lambrequinlaw22_InterpMore.T17 : Bool × List (List Nat × List Nat) := (true, [([], []), ([], []), ([0, 1], [0, 1]), ([2], [2]), ([3], [3]), ([], []), ([4, 5], [4, 5]), ([6], [6]), ([], []), ([], []), ([8, 9], [8, 9]), ([10], [10]), ([11], [11]), ([], []), ([12, 13], [12, 13]), ([14], [14]), ([7, 15], [7, 15]), ([16], [16]), ([17], [17]), ([17], [17]), ([18, 19, 17], [17, 18, 19]), ([20, 17], [17, 20]), ([21, 17], [17, 21]), ([17], [17]), ([22, 23, 17], [17, 22, 23]), ([24, 17], [17, 24]), ([17], [17]), ([17], [17]), ([26, 27, 17], [17, 26, 27]), ([28, 17], [17, 28]), ([29, 17], [17, 29]), ([17], [17]), ([30, 31, 17], [17, 30, 31]), ([32, 17], [17, 32]), ([25, 33, 17], [17, 25, 33]), ([17, 34], [17, 34])])
def lambrequinlaw22_InterpMore.B17 : List Nat := [0, 0, 3, 7, 15, 0, 63, 127, 0, 0, 768, 1792, 3840, 0, 16128, 32512, 65535, 131071, 262143, 262143, 1048575, 2097151, 4194303, 262143, 16777215, 33554431, 262143, 262143, 201588735, 470024191, 1006895103, 262143, 4228120575, 8523087871, 17179869183, 34359738367]
theorem lambrequinlaw22_InterpMore.tab17 : rtab .any (opsOf Try.f8 17) = lambrequinlaw22_InterpMore.T17 := by kernel_rfl
theorem lambrequinlaw22_InterpMore.bits17 : waitsOk lambrequinlaw22_InterpMore.T17.2 lambrequinlaw22_InterpMore.B17 = true := by kernel_rfl
set_option maxHeartbeats 8000000 in
set_option maxRecDepth 100000 in
theorem lambrequinlaw22_InterpMore.calls (k : Nat) (A0_0 : Option Addr) (c0_0 : Nat) (l0_0 : List (Stmt)) (A0_1 : Option Addr) (c0_1 : Nat) (l0_1 : List Int) (A0_2 : Option Addr) (c0_2 : Nat) (l0_2 : List Bool) (a0_3 : Int) (a1 : Int) (r : Bool) (w : World) (hr0_0 : Kd.C k30 w A0_0 l0_0.length l0_0) (hc0_0 : l0_0.length ≤ c0_0) (hr0_1 : Kd.C (Kd.int .i64) w A0_1 l0_1.length l0_1) (hc0_1 : l0_1.length ≤ c0_1) (hr0_2 : Kd.C Kd.bool w A0_2 l0_2.length l0_2) (hc0_2 : l0_2.length ≤ c0_2) (h : lambrequinlaw22_InterpMore.f k l0_0 l0_1 l0_2 a0_3 a1 = some r) :
  Calls Try.prog 8 #[.agg #[.slice A0_0 l0_0.length c0_0, .slice A0_1 l0_1.length c0_1, .slice A0_2 l0_2.length c0_2, .int .i64 a0_3], .int .u8 a1] w fun e w' => e = .returned (.bool r) ∧ Below w.heap.size w w' := by
 have hu43 := Try.underlying43
 have hu54 := Try.underlying54
 have HR0_0 := am hr0_0
 have HC0_0 := am hc0_0
 clear hr0_0 hc0_0
 have HR0_1 := am hr0_1
 have HC0_1 := am hc0_1
 clear hr0_1 hc0_1
 have HR0_2 := am hr0_2
 have HC0_2 := am hc0_2
 clear hr0_2 hc0_2
 have HB := am (Below.refl w.heap.size w)
 have H : ((lambrequinlaw22_shown.f).bind fun t302 => ((lambrequinlaw22_few.f l0_0 l0_1 l0_2 a0_3).bind fun t303 => (if t303 = true then ((interp_Run.f l0_0 l0_1 l0_2 a0_3).bind fun t304 => ((interp_Run.f l0_0 l0_1 l0_2 (wrap64 ((mx a0_3 0) + (wrap64 (Int.tmod a1 20))))).bind fun t307 => ((some (([] : List Int) : List Int)).bind fun y310 => (if y310.length + l0_1.length < 17592186044416 then ((some (y310 ++ l0_1 : List Int)).bind fun y313 => ((some (([0, 0] : List Int) : List Int)).bind fun y316 => (if y313.length + y316.length < 17592186044416 then ((interp_Run.f l0_0 (y313 ++ y316) l0_2 a0_3).bind fun t322 => (if (t304.length : Int) > (t307.length : Int) then (lambrequinlaw22_InterpMore.j0 k t302 t304 t307 t322 true) else (lambrequinlaw22_InterpMore.j0 k t302 t304 t307 t322 ((t304.length : Int) != (t322.length : Int))))) else (none)))) else (none))))) else (some t302)))) = some r := h
 clear h
 replace H := Option.bind_eq_some_iff.mp H
 obtain ⟨t302, A30, H⟩ := H
 replace H : ((lambrequinlaw22_few.f l0_0 l0_1 l0_2 a0_3).bind fun t303 => (if t303 = true then ((interp_Run.f l0_0 l0_1 l0_2 a0_3).bind fun t304 => ((interp_Run.f l0_0 l0_1 l0_2 (wrap64 ((mx a0_3 0) + (wrap64 (Int.tmod a1 20))))).bind fun t307 => ((some (([] : List Int) : List Int)).bind fun y310 => (if y310.length + l0_1.length < 17592186044416 then ((some (y310 ++ l0_1 : List Int)).bind fun y313 => ((some (([0, 0] : List Int) : List Int)).bind fun y316 => (if y313.length + y316.length < 17592186044416 then ((interp_Run.f l0_0 (y313 ++ y316) l0_2 a0_3).bind fun t322 => (if (t304.length : Int) > (t307.length : Int) then (lambrequinlaw22_InterpMore.j0 k t302 t304 t307 t322 true) else (lambrequinlaw22_InterpMore.j0 k t302 t304 t307 t322 ((t304.length : Int) != (t322.length : Int))))) else (none)))) else (none))))) else (some t302))) = some r := H
 have A3 := am A30
 clear A30
 replace H := Option.bind_eq_some_iff.mp H
 obtain ⟨t303, A40, H⟩ := H
 replace H : (if t303 = true then ((interp_Run.f l0_0 l0_1 l0_2 a0_3).bind fun t304 => ((interp_Run.f l0_0 l0_1 l0_2 (wrap64 ((mx a0_3 0) + (wrap64 (Int.tmod a1 20))))).bind fun t307 => ((some (([] : List Int) : List Int)).bind fun y310 => (if y310.length + l0_1.length < 17592186044416 then ((some (y310 ++ l0_1 : List Int)).bind fun y313 => ((some (([0, 0] : List Int) : List Int)).bind fun y316 => (if y313.length + y316.length < 17592186044416 then ((interp_Run.f l0_0 (y313 ++ y316) l0_2 a0_3).bind fun t322 => (if (t304.length : Int) > (t307.length : Int) then (lambrequinlaw22_InterpMore.j0 k t302 t304 t307 t322 true) else (lambrequinlaw22_InterpMore.j0 k t302 t304 t307 t322 ((t304.length : Int) != (t322.length : Int))))) else (none)))) else (none))))) else (some t302)) = some r := H
 have A4 := am A40
 clear A40
 as_aux_lemma =>
 by_cases c5 : t303 = true
 rotate_left
 ·replace c5 := Bool.eq_false_iff.mpr c5
  subst c5
  have H1 : (some t302) = some r := by rw [if_neg (show ¬ (false = true) by decide)] at H; exact H
  clear H
  have H := H1
  clear H1
  obtain rfl := Option.some.inj H
  go_enter Try.func8, Try.ntmps8
  go_wp2_with (first | ((with_reducible refine gate_dst (N := 2) rfl ?_); (try (refine gate_guard (by rfl) ?_; dsimp only)); refine box_event ?hg (N := 2) ?hd (cs := #[.slice A0_0 l0_0.length c0_0, .slice A0_1 l0_1.length c0_1, .slice A0_2 l0_2.length c0_2, .int .i64 a0_3]) (t := 43) ?hr ?_; (case hd => rfl); (case hg => rfl); (case hr => first | (go_simp; done) | (go_simp; rfl)); intro gb301 hg w79 hbox hb; have BK301 := am (hbox); have GW301 := am ((by rw [hg]; exact (below_size (by repeat (first | (with_reducible first | exact HB.out | apply lA | apply lN | apply lD) | exact HB.out))) : w.heap.size ≤ gb301)); have GE301 := am ((by rw [hg]; exact (below_size (by repeat (first | (with_reducible first | exact HB.out | apply lA | apply lN | apply lD) | exact HB.out))) : w.heap.size ≤ gb301)); replace HB := am (below_step (by repeat (first | (with_reducible first | exact HB.out | apply lA | apply lN | apply lD) | exact HB.out)) hb); clear hb hbox hg) | ((with_reducible refine gate_callee (f := 33) rfl ?_); refine goesL_ (some 11) rfl rfl Try.func33 (by kernel_rfl) rfl #[] rfl (by (try simp only [List.map_toArray, List.map_cons, List.map_nil]); first | done | rfl | (simp only [List.length_drop, List.length_take]; rfl)) ?_; (with_reducible refine (lambrequinlaw22_shown.calls  t302 _ A3.out).mono ?_); rintro e w80 ⟨rfl, hb⟩; refine ⟨_, rfl, ?_⟩; replace BK301 := am (blk_below (g := gb301) (o := .cells #[.slice A0_0 l0_0.length c0_0, .slice A0_1 l0_1.length c0_1, .slice A0_2 l0_2.length c0_2, .int .i64 a0_3] 43 (0, 0)) (by (with_reducible repeat (first | refine bN ?_ _ | refine bD ?_ | refine bA ?_ _)); exact BK301.out) hb); replace HB := am (below_step (by repeat (first | (with_reducible first | exact HB.out | apply lA | apply lN | apply lD | refine lS ?_ GE301.out) | exact HB.out)) hb); (try clear hb); (try clear hb2); (try clear hk); (try clear hi); have hcz81_0 : w80.cell? ⟨gb301, 0, none⟩ = some (.slice A0_0 l0_0.length c0_0) := (blk_cell BK301.out 0).trans rfl; have hcz81_1 : w80.cell? ⟨gb301, 1, none⟩ = some (.slice A0_1 l0_1.length c0_1) := (blk_cell BK301.out 1).trans rfl; have hcz81_2 : w80.cell? ⟨gb301, 2, none⟩ = some (.slice A0_2 l0_2.length c0_2) := (blk_cell BK301.out 2).trans rfl; have hcz81_3 : w80.cell? ⟨gb301, 3, none⟩ = some (.int .i64 a0_3) := (blk_cell BK301.out 3).trans rfl; have hfz81_0 := blk_frozen BK301.out 0; have hfz81_1 := blk_frozen BK301.out 1; have hfz81_2 := blk_frozen BK301.out 2; have hfz81_3 := blk_frozen BK301.out 3) | ((with_reducible refine gate_callee (f := 34) rfl ?_); refine goesL_ (some 13) rfl rfl Try.func34 (by kernel_rfl) rfl #[.agg #[.slice A0_0 l0_0.length c0_0, .slice A0_1 l0_1.length c0_1, .slice A0_2 l0_2.length c0_2, .int .i64 a0_3]] rfl (by (try simp only [List.map_toArray, List.map_cons, List.map_nil]); first | done | rfl | (simp only [List.length_drop, List.length_take]; rfl)) ?_; (with_reducible refine (lambrequinlaw22_few.calls _ _ l0_0 _ _ l0_1 _ _ l0_2 a0_3 false _ ?side1 ?side2 ?side3 ?side4 ?side5 ?side6 A4.out).mono ?_); (case side1 => repeat (first | exact (Kd.C_below HR0_0.out HB.out) | (with_reducible refine Kd.C_alloc ?_ _) | (with_reducible refine Kd.C_drewN ?_ _) | (with_reducible refine Kd.C_drew ?_))); (case side2 => exact HC0_0.out); (case side3 => repeat (first | exact (Kd.C_below HR0_1.out HB.out) | (with_reducible refine Kd.C_alloc ?_ _) | (with_reducible refine Kd.C_drewN ?_ _) | (with_reducible refine Kd.C_drew ?_))); (case side4 => exact HC0_1.out); (case side5 => repeat (first | exact (Kd.C_below HR0_2.out HB.out) | (with_reducible refine Kd.C_alloc ?_ _) | (with_reducible refine Kd.C_drewN ?_ _) | (with_reducible refine Kd.C_drew ?_))); (case side6 => exact HC0_2.out); rintro e w82 ⟨rfl, hb⟩; refine ⟨_, rfl, ?_⟩; replace BK301 := am (blk_below (g := gb301) (o := .cells #[.slice A0_0 l0_0.length c0_0, .slice A0_1 l0_1.length c0_1, .slice A0_2 l0_2.length c0_2, .int .i64 a0_3] 43 (0, 0)) (by (with_reducible repeat (first | refine bN ?_ _ | refine bD ?_ | refine bA ?_ _)); exact BK301.out) hb); replace HB := am (below_step (by repeat (first | (with_reducible first | exact HB.out | apply lA | apply lN | apply lD | refine lS ?_ GE301.out) | exact HB.out)) hb); (try clear hb); (try clear hb2); (try clear hk); (try clear hi)))
  go_ret
  exact ⟨by first | rfl | (simp [errW_none, errW_some] <;> rfl) | (simp [*, errW_none, errW_some] <;> rfl), by repeat (first | (with_reducible first | exact HB.out | apply lA | apply lN | apply lD | refine lS ?_ GE301.out) | exact HB.out)⟩
 subst c5
 have H1 : ((interp_Run.f l0_0 l0_1 l0_2 a0_3).bind fun t304 => ((interp_Run.f l0_0 l0_1 l0_2 (wrap64 ((mx a0_3 0) + (wrap64 (Int.tmod a1 20))))).bind fun t307 => ((some (([] : List Int) : List Int)).bind fun y310 => (if y310.length + l0_1.length < 17592186044416 then ((some (y310 ++ l0_1 : List Int)).bind fun y313 => ((some (([0, 0] : List Int) : List Int)).bind fun y316 => (if y313.length + y316.length < 17592186044416 then ((interp_Run.f l0_0 (y313 ++ y316) l0_2 a0_3).bind fun t322 => (if (t304.length : Int) > (t307.length : Int) then (lambrequinlaw22_InterpMore.j0 k t302 t304 t307 t322 true) else (lambrequinlaw22_InterpMore.j0 k t302 t304 t307 t322 ((t304.length : Int) != (t322.length : Int))))) else (none)))) else (none))))) = some r := by rw [if_pos rfl] at H; exact H
 clear H
 have H := H1
 clear H1
 replace H := Option.bind_eq_some_iff.mp H
 obtain ⟨t304, A60, H⟩ := H
 replace H : ((interp_Run.f l0_0 l0_1 l0_2 (wrap64 ((mx a0_3 0) + (wrap64 (Int.tmod a1 20))))).bind fun t307 => ((some (([] : List Int) : List Int)).bind fun y310 => (if y310.length + l0_1.length < 17592186044416 then ((some (y310 ++ l0_1 : List Int)).bind fun y313 => ((some (([0, 0] : List Int) : List Int)).bind fun y316 => (if y313.length + y316.length < 17592186044416 then ((interp_Run.f l0_0 (y313 ++ y316) l0_2 a0_3).bind fun t322 => (if (t304.length : Int) > (t307.length : Int) then (lambrequinlaw22_InterpMore.j0 k t302 t304 t307 t322 true) else (lambrequinlaw22_InterpMore.j0 k t302 t304 t307 t322 ((t304.length : Int) != (t322.length : Int))))) else (none)))) else (none)))) = some r := H
 have A6 := am A60
 clear A60
 obtain ⟨ji7, hji7⟩ : ∃ j_ : Int, (mx a0_3 0) = j_ := ⟨_, rfl⟩
 replace H : ((interp_Run.f l0_0 l0_1 l0_2 (wrap64 ((ji7) + (wrap64 (Int.tmod a1 20))))).bind fun t307 => ((some (([] : List Int) : List Int)).bind fun y310 => (if y310.length + l0_1.length < 17592186044416 then ((some (y310 ++ l0_1 : List Int)).bind fun y313 => ((some (([0, 0] : List Int) : List Int)).bind fun y316 => (if y313.length + y316.length < 17592186044416 then ((interp_Run.f l0_0 (y313 ++ y316) l0_2 a0_3).bind fun t322 => (if (t304.length : Int) > (t307.length : Int) then (lambrequinlaw22_InterpMore.j0 k t302 t304 t307 t322 true) else (lambrequinlaw22_InterpMore.j0 k t302 t304 t307 t322 ((t304.length : Int) != (t322.length : Int))))) else (none)))) else (none)))) = some r := by first | (rw [hji7] at H; exact H) | (simp only [hji7] at H ⊢; exact H)
 (try rw [hji7] at A3)
 (try rw [hji7] at A4)
 (try rw [hji7] at A6)
 (try (have hji7l : 0 ≤ ji7 := by (rw [← hji7]; unfold mx; (repeat' split) <;> omega)))
 (try (have hji7m : 0 ≤ ji7 := by omega))
 have hji7_ : (if a0_3 < 0 then 0 else a0_3) = ji7 := hji7
 replace H := Option.bind_eq_some_iff.mp H
 obtain ⟨t307, A80, H⟩ := H
 replace H : ((some (([] : List Int) : List Int)).bind fun y310 => (if y310.length + l0_1.length < 17592186044416 then ((some (y310 ++ l0_1 : List Int)).bind fun y313 => ((some (([0, 0] : List Int) : List Int)).bind fun y316 => (if y313.length + y316.length < 17592186044416 then ((interp_Run.f l0_0 (y313 ++ y316) l0_2 a0_3).bind fun t322 => (if (t304.length : Int) > (t307.length : Int) then (lambrequinlaw22_InterpMore.j0 k t302 t304 t307 t322 true) else (lambrequinlaw22_InterpMore.j0 k t302 t304 t307 t322 ((t304.length : Int) != (t322.length : Int))))) else (none)))) else (none))) = some r := H
 have A8 := am A80
 clear A80
 obtain ⟨y310, hy310⟩ : ∃ y_ : List Int, y_ = (([] : List Int)) := ⟨_, rfl⟩
 replace H : (if y310.length + l0_1.length < 17592186044416 then ((some (y310 ++ l0_1 : List Int)).bind fun y313 => ((some (([0, 0] : List Int) : List Int)).bind fun y316 => (if y313.length + y316.length < 17592186044416 then ((interp_Run.f l0_0 (y313 ++ y316) l0_2 a0_3).bind fun t322 => (if (t304.length : Int) > (t307.length : Int) then (lambrequinlaw22_InterpMore.j0 k t302 t304 t307 t322 true) else (lambrequinlaw22_InterpMore.j0 k t302 t304 t307 t322 ((t304.length : Int) != (t322.length : Int))))) else (none)))) else (none)) = some r := by first | (rw [hy310]; with_reducible exact H) | (have H2_ := (Option.bind_some _ _).symm.trans H; rw [hy310]; with_reducible exact H2_) | (have H2_ := (Option.bind_some _ _).symm.trans H; with_reducible exact H2_) | with_reducible exact H | (rw [hy310]; exact H) | exact H
 have Ny310 := am hy310
 clear hy310
 as_aux_lemma =>
 by_cases c9 : y310.length + l0_1.length < 17592186044416
 rotate_left
 ·rw [if_neg c9] at H
  exact absurd H (by simp)
 rw [if_pos c9] at H
 have LMc9 := am c9
 clear c9
 obtain ⟨y313, hy313⟩ : ∃ y_ : List Int, y_ = (y310 ++ l0_1) := ⟨_, rfl⟩
 replace H : ((some (([0, 0] : List Int) : List Int)).bind fun y316 => (if y313.length + y316.length < 17592186044416 then ((interp_Run.f l0_0 (y313 ++ y316) l0_2 a0_3).bind fun t322 => (if (t304.length : Int) > (t307.length : Int) then (lambrequinlaw22_InterpMore.j0 k t302 t304 t307 t322 true) else (lambrequinlaw22_InterpMore.j0 k t302 t304 t307 t322 ((t304.length : Int) != (t322.length : Int))))) else (none))) = some r := by first | (rw [hy313]; with_reducible exact H) | (have H2_ := (Option.bind_some _ _).symm.trans H; rw [hy313]; with_reducible exact H2_) | (have H2_ := (Option.bind_some _ _).symm.trans H; with_reducible exact H2_) | with_reducible exact H | (rw [hy313]; exact H) | exact H
 have Ny313 := am hy313
 clear hy313
 obtain ⟨y316, hy316⟩ : ∃ y_ : List Int, y_ = (([0, 0] : List Int)) := ⟨_, rfl⟩
 replace H : (if y313.length + y316.length < 17592186044416 then ((interp_Run.f l0_0 (y313 ++ y316) l0_2 a0_3).bind fun t322 => (if (t304.length : Int) > (t307.length : Int) then (lambrequinlaw22_InterpMore.j0 k t302 t304 t307 t322 true) else (lambrequinlaw22_InterpMore.j0 k t302 t304 t307 t322 ((t304.length : Int) != (t322.length : Int))))) else (none)) = some r := by first | (rw [hy316]; with_reducible exact H) | (have H2_ := (Option.bind_some _ _).symm.trans H; rw [hy316]; with_reducible exact H2_) | (have H2_ := (Option.bind_some _ _).symm.trans H; with_reducible exact H2_) | with_reducible exact H | (rw [hy316]; exact H) | exact H
 have Ny316 := am hy316
 clear hy316
 as_aux_lemma =>
 by_cases c10 : y313.length + y316.length < 17592186044416
 rotate_left
 ·rw [if_neg c10] at H
  exact absurd H (by simp)
 rw [if_pos c10] at H
 have LMc10 := am c10
 clear c10
 obtain ⟨y319, hy319⟩ : ∃ y_ : List Int, y_ = (y313 ++ y316) := ⟨_, rfl⟩
 replace H : ((interp_Run.f l0_0 y319 l0_2 a0_3).bind fun t322 => (if (t304.length : Int) > (t307.length : Int) then (lambrequinlaw22_InterpMore.j0 k t302 t304 t307 t322 true) else (lambrequinlaw22_InterpMore.j0 k t302 t304 t307 t322 ((t304.length : Int) != (t322.length : Int))))) = some r := by first | (rw [hy319]; with_reducible exact H) | (have H2_ := (Option.bind_some _ _).symm.trans H; rw [hy319]; with_reducible exact H2_) | (have H2_ := (Option.bind_some _ _).symm.trans H; with_reducible exact H2_) | with_reducible exact H | (rw [hy319]; exact H) | exact H
 have Ny319 := am hy319
 clear hy319
 replace H := Option.bind_eq_some_iff.mp H
 obtain ⟨t322, A110, H⟩ := H
 replace H : (if (t304.length : Int) > (t307.length : Int) then (lambrequinlaw22_InterpMore.j0 k t302 t304 t307 t322 true) else (lambrequinlaw22_InterpMore.j0 k t302 t304 t307 t322 ((t304.length : Int) != (t322.length : Int)))) = some r := H
 have A11 := am A110
 clear A110
 have HC12 := am H
 clear H
 go_enter Try.func8, Try.ntmps8
 try go_wp2_with (first | ((with_reducible refine gate_dst (N := 2) rfl ?_); (try (refine gate_guard (by rfl) ?_; dsimp only)); refine box_event ?hg (N := 2) ?hd (cs := #[.slice A0_0 l0_0.length c0_0, .slice A0_1 l0_1.length c0_1, .slice A0_2 l0_2.length c0_2, .int .i64 a0_3]) (t := 43) ?hr ?_; (case hd => rfl); (case hg => rfl); (case hr => first | (go_simp; done) | (go_simp; rfl)); intro gb301 hg w13 hbox hb; have BK301 := am (hbox); have GW301 := am ((by rw [hg]; exact (below_size (by repeat (first | (with_reducible first | exact HB.out | apply lA | apply lN | apply lD) | exact HB.out))) : w.heap.size ≤ gb301)); have GE301 := am ((by rw [hg]; exact (below_size (by repeat (first | (with_reducible first | exact HB.out | apply lA | apply lN | apply lD) | exact HB.out))) : w.heap.size ≤ gb301)); replace HB := am (below_step (by repeat (first | (with_reducible first | exact HB.out | apply lA | apply lN | apply lD) | exact HB.out)) hb); clear hb hbox hg) | ((with_reducible refine gate_callee (f := 33) rfl ?_); refine goesL_ (some 11) rfl rfl Try.func33 (by kernel_rfl) rfl #[] rfl (by (try simp only [List.map_toArray, List.map_cons, List.map_nil]); first | done | rfl | (simp only [List.length_drop, List.length_take]; rfl)) ?_; (with_reducible refine (lambrequinlaw22_shown.calls  t302 _ A3.out).mono ?_); rintro e w14 ⟨rfl, hb⟩; refine ⟨_, rfl, ?_⟩; replace BK301 := am (blk_below (g := gb301) (o := .cells #[.slice A0_0 l0_0.length c0_0, .slice A0_1 l0_1.length c0_1, .slice A0_2 l0_2.length c0_2, .int .i64 a0_3] 43 (0, 0)) (by (with_reducible repeat (first | refine bN ?_ _ | refine bD ?_ | refine bA ?_ _)); exact BK301.out) hb); replace HB := am (below_step (by repeat (first | (with_reducible first | exact HB.out | apply lA | apply lN | apply lD | refine lS ?_ GE301.out) | exact HB.out)) hb); (try clear hb); (try clear hb2); (try clear hk); (try clear hi); have hcz15_0 : w14.cell? ⟨gb301, 0, none⟩ = some (.slice A0_0 l0_0.length c0_0) := (blk_cell BK301.out 0).trans rfl; have hcz15_1 : w14.cell? ⟨gb301, 1, none⟩ = some (.slice A0_1 l0_1.length c0_1) := (blk_cell BK301.out 1).trans rfl; have hcz15_2 : w14.cell? ⟨gb301, 2, none⟩ = some (.slice A0_2 l0_2.length c0_2) := (blk_cell BK301.out 2).trans rfl; have hcz15_3 : w14.cell? ⟨gb301, 3, none⟩ = some (.int .i64 a0_3) := (blk_cell BK301.out 3).trans rfl; have hfz15_0 := blk_frozen BK301.out 0; have hfz15_1 := blk_frozen BK301.out 1; have hfz15_2 := blk_frozen BK301.out 2; have hfz15_3 := blk_frozen BK301.out 3) | ((with_reducible refine gate_callee (f := 34) rfl ?_); refine goesL_ (some 13) rfl rfl Try.func34 (by kernel_rfl) rfl #[.agg #[.slice A0_0 l0_0.length c0_0, .slice A0_1 l0_1.length c0_1, .slice A0_2 l0_2.length c0_2, .int .i64 a0_3]] rfl (by (try simp only [List.map_toArray, List.map_cons, List.map_nil]); first | done | rfl | (simp only [List.length_drop, List.length_take]; rfl)) ?_; (with_reducible refine (lambrequinlaw22_few.calls _ _ l0_0 _ _ l0_1 _ _ l0_2 a0_3 true _ ?side1 ?side2 ?side3 ?side4 ?side5 ?side6 A4.out).mono ?_); (case side1 => repeat (first | exact (Kd.C_below HR0_0.out HB.out) | (with_reducible refine Kd.C_alloc ?_ _) | (with_reducible refine Kd.C_drewN ?_ _) | (with_reducible refine Kd.C_drew ?_))); (case side2 => exact HC0_0.out); (case side3 => repeat (first | exact (Kd.C_below HR0_1.out HB.out) | (with_reducible refine Kd.C_alloc ?_ _) | (with_reducible refine Kd.C_drewN ?_ _) | (with_reducible refine Kd.C_drew ?_))); (case side4 => exact HC0_1.out); (case side5 => repeat (first | exact (Kd.C_below HR0_2.out HB.out) | (with_reducible refine Kd.C_alloc ?_ _) | (with_reducible refine Kd.C_drewN ?_ _) | (with_reducible refine Kd.C_drew ?_))); (case side6 => exact HC0_2.out); rintro e w16 ⟨rfl, hb⟩; refine ⟨_, rfl, ?_⟩; replace BK301 := am (blk_below (g := gb301) (o := .cells #[.slice A0_0 l0_0.length c0_0, .slice A0_1 l0_1.length c0_1, .slice A0_2 l0_2.length c0_2, .int .i64 a0_3] 43 (0, 0)) (by (with_reducible repeat (first | refine bN ?_ _ | refine bD ?_ | refine bA ?_ _)); exact BK301.out) hb); replace HB := am (below_step (by repeat (first | (with_reducible first | exact HB.out | apply lA | apply lN | apply lD | refine lS ?_ GE301.out) | exact HB.out)) hb); (try clear hb); (try clear hb2); (try clear hk); (try clear hi); have hcz17_0 : w16.cell? ⟨gb301, 0, none⟩ = some (.slice A0_0 l0_0.length c0_0) := (blk_cell BK301.out 0).trans rfl; have hcz17_1 : w16.cell? ⟨gb301, 1, none⟩ = some (.slice A0_1 l0_1.length c0_1) := (blk_cell BK301.out 1).trans rfl; have hcz17_2 : w16.cell? ⟨gb301, 2, none⟩ = some (.slice A0_2 l0_2.length c0_2) := (blk_cell BK301.out 2).trans rfl; have hcz17_3 : w16.cell? ⟨gb301, 3, none⟩ = some (.int .i64 a0_3) := (blk_cell BK301.out 3).trans rfl; have hfz17_0 := blk_frozen BK301.out 0; have hfz17_1 := blk_frozen BK301.out 1; have hfz17_2 := blk_frozen BK301.out 2; have hfz17_3 := blk_frozen BK301.out 3) | ((with_reducible refine gate_callee (f := 36) rfl ?_); refine goesL_ (some 24) rfl rfl Try.func36 (by kernel_rfl) rfl #[.slice A0_0 l0_0.length c0_0, .slice A0_1 l0_1.length c0_1, .slice A0_2 l0_2.length c0_2, .int .i64 a0_3] rfl (by (try simp only [List.map_toArray, List.map_cons, List.map_nil]); first | done | rfl | (simp only [List.length_drop, List.length_take]; rfl)) ?_; (with_reducible refine (interp_Run.calls _ _ l0_0 _ _ l0_1 _ _ l0_2 a0_3 t304 _ ?side1 ?side2 ?side3 ?side4 ?side5 ?side6 A6.out).mono ?_); (case side1 => repeat (first | exact (Kd.C_below HR0_0.out HB.out) | (with_reducible refine Kd.C_alloc ?_ _) | (with_reducible refine Kd.C_drewN ?_ _) | (with_reducible refine Kd.C_drew ?_))); (case side2 => exact HC0_0.out); (case side3 => repeat (first | exact (Kd.C_below HR0_1.out HB.out) | (with_reducible refine Kd.C_alloc ?_ _) | (with_reducible refine Kd.C_drewN ?_ _) | (with_reducible refine Kd.C_drew ?_))); (case side4 => exact HC0_1.out); (case side5 => repeat (first | exact (Kd.C_below HR0_2.out HB.out) | (with_reducible refine Kd.C_alloc ?_ _) | (with_reducible refine Kd.C_drewN ?_ _) | (with_reducible refine Kd.C_drew ?_))); (case side6 => exact HC0_2.out); rintro e w18 ⟨v305, rfl, ho0, hb⟩; refine ⟨_, rfl, ?_⟩; have HO306 := am (Kd.S_lower ho0 (below_size (by repeat (first | (with_reducible first | exact HB.out | apply lA | apply lN | apply lD | refine lS ?_ GE301.out) | exact HB.out)))); replace BK301 := am (blk_below (g := gb301) (o := .cells #[.slice A0_0 l0_0.length c0_0, .slice A0_1 l0_1.length c0_1, .slice A0_2 l0_2.length c0_2, .int .i64 a0_3] 43 (0, 0)) (by (with_reducible repeat (first | refine bN ?_ _ | refine bD ?_ | refine bA ?_ _)); exact BK301.out) hb); replace HB := am (below_step (by repeat (first | (with_reducible first | exact HB.out | apply lA | apply lN | apply lD | refine lS ?_ GE301.out) | exact HB.out)) hb); (try clear hb); (try clear hb2); (try clear hk); (try clear hi); (try clear ho0); have hcz19_0 : w18.cell? ⟨gb301, 0, none⟩ = some (.slice A0_0 l0_0.length c0_0) := (blk_cell BK301.out 0).trans rfl; have hcz19_1 : w18.cell? ⟨gb301, 1, none⟩ = some (.slice A0_1 l0_1.length c0_1) := (blk_cell BK301.out 1).trans rfl; have hcz19_2 : w18.cell? ⟨gb301, 2, none⟩ = some (.slice A0_2 l0_2.length c0_2) := (blk_cell BK301.out 2).trans rfl; have hcz19_3 : w18.cell? ⟨gb301, 3, none⟩ = some (.int .i64 a0_3) := (blk_cell BK301.out 3).trans rfl; have hfz19_0 := blk_frozen BK301.out 0; have hfz19_1 := blk_frozen BK301.out 1; have hfz19_2 := blk_frozen BK301.out 2; have hfz19_3 := blk_frozen BK301.out 3) | ((with_reducible refine gate_callee (f := 36) rfl ?_); refine goesL_ (some 38) rfl rfl Try.func36 (by kernel_rfl) rfl #[.slice A0_0 l0_0.length c0_0, .slice A0_1 l0_1.length c0_1, .slice A0_2 l0_2.length c0_2, .int .i64 (wrap64 ((ji7) + (wrap64 (Int.tmod a1 20))))] rfl (by (try simp only [List.map_toArray, List.map_cons, List.map_nil]); first | done | (simp only [hji7]; rfl) | rfl | (simp only [List.length_drop, List.length_take]; rfl)) ?_; (with_reducible refine (interp_Run.calls _ _ l0_0 _ _ l0_1 _ _ l0_2 (wrap64 ((ji7) + (wrap64 (Int.tmod a1 20)))) t307 _ ?side1 ?side2 ?side3 ?side4 ?side5 ?side6 A8.out).mono ?_); (case side1 => repeat (first | exact (Kd.C_below HR0_0.out HB.out) | (with_reducible refine Kd.C_alloc ?_ _) | (with_reducible refine Kd.C_drewN ?_ _) | (with_reducible refine Kd.C_drew ?_))); (case side2 => exact HC0_0.out); (case side3 => repeat (first | exact (Kd.C_below HR0_1.out HB.out) | (with_reducible refine Kd.C_alloc ?_ _) | (with_reducible refine Kd.C_drewN ?_ _) | (with_reducible refine Kd.C_drew ?_))); (case side4 => exact HC0_1.out); (case side5 => repeat (first | exact (Kd.C_below HR0_2.out HB.out) | (with_reducible refine Kd.C_alloc ?_ _) | (with_reducible refine Kd.C_drewN ?_ _) | (with_reducible refine Kd.C_drew ?_))); (case side6 => exact HC0_2.out); rintro e w20 ⟨v308, rfl, ho0, hb⟩; refine ⟨_, rfl, ?_⟩; have HO309 := am (Kd.S_lower (Kd.S_new' ho0 (Kd.S_lt (by (with_reducible repeat (first | apply Kd.S_alloc | apply Kd.S_drewN | apply Kd.S_drew)); exact HO306.out))) (below_size (by repeat (first | (with_reducible first | exact HB.out | apply lA | apply lN | apply lD | refine lS ?_ GE301.out) | exact HB.out)))); replace HO306 := am (Kd.S_elder' (by (with_reducible repeat (first | apply Kd.S_alloc | apply Kd.S_drewN | apply Kd.S_drew)); exact HO306.out) (Kd.S_base ho0) hb); replace BK301 := am (blk_below (g := gb301) (o := .cells #[.slice A0_0 l0_0.length c0_0, .slice A0_1 l0_1.length c0_1, .slice A0_2 l0_2.length c0_2, .int .i64 a0_3] 43 (0, 0)) (by (with_reducible repeat (first | refine bN ?_ _ | refine bD ?_ | refine bA ?_ _)); exact BK301.out) hb); replace HB := am (below_step (by repeat (first | (with_reducible first | exact HB.out | apply lA | apply lN | apply lD | refine lS ?_ GE301.out) | exact HB.out)) hb); (try clear hb); (try clear hb2); (try clear hk); (try clear hi); (try clear ho0)))
 replace HO306 := am (Kd.S_drew HO306.out)
 replace HO309 := am (Kd.S_drew HO309.out)
 replace BK301 := am (blk_drew BK301.out)
 replace HB := am (below_drew1 HB.out)
 refine start_ (n := 14) (S := fun w' => w'.cell? ⟨gb301, 0, none⟩ = some (.slice A0_0 l0_0.length c0_0) ∧ w'.cell? ⟨gb301, 1, none⟩ = some (.slice A0_1 l0_1.length c0_1) ∧ w'.cell? ⟨gb301, 2, none⟩ = some (.slice A0_2 l0_2.length c0_2) ∧ w'.cell? ⟨gb301, 3, none⟩ = some (.int .i64 a0_3)) (ds := []) (bl 14 0) (by kernel_rfl) rfl rfl ⟨(blk_cell BK301.out 0).trans rfl, (blk_cell BK301.out 1).trans rfl, (blk_cell BK301.out 2).trans rfl, (blk_cell BK301.out 3).trans rfl⟩ (fun hHeld => ?_); refine with_tabW lambrequinlaw22_InterpMore.tab6 lambrequinlaw22_InterpMore.bits6 (fun HT_ HW_ => ?_)
 generalize w20.drew = w21 at HO306 HO309 BK301 HB hHeld ⊢
 refine pure_ (i := 0) (N := some 39) (v := ?_) (a' := ?_) (bl 14 1) rfl rfl (any_of HT_.out (by kernel_rfl)) (fun _ _ _ h => h) (Or.inl ⟨by rfl, ?_⟩) ?_ ?_
 rotate_left
 ·intro w'
  go_simp
  with_reducible rfl
 rotate_left
 ·simp only [Act.put, sA, sZ, sS, i64_w, i32_w]
  rfl
 refine pure_ (i := 3) (N := some 42) (v := ?_) (a' := ?_) (bl 14 9) rfl rfl (any_of HT_.out (by kernel_rfl)) (fun _ _ _ h => h) (Or.inl ⟨by rfl, ?_⟩) ?_ ?_
 rotate_left
 ·intro w'
  go_simp
  with_reducible rfl
 rotate_left
 ·simp only [Act.put, sA, sZ, sS, i64_w, i32_w]
  rfl
 refine pure_ (i := 8) (N := some 47) (v := ?_) (a' := ?_) (bl 14 265) rfl rfl (any_of HT_.out (by kernel_rfl)) (fun _ _ _ h => h) (Or.inl ⟨by rfl, ?_⟩) ?_ ?_
 rotate_left
 ·intro w'
  go_simp
  with_reducible rfl
 rotate_left
 ·simp only [Act.put, sA, sZ, sS, i64_w, i32_w]
  rfl
 refine pure_ (i := 10) (N := some 49) (v := ?_) (a' := ?_) (bl 14 1289) rfl rfl (any_of HT_.out (by kernel_rfl)) (fun _ _ _ h => h) (Or.inl ⟨by rfl, ?_⟩) ?_ ?_
 rotate_left
 ·intro w'
  go_simp
  with_reducible rfl
 rotate_left
 ·simp only [Act.put, sA, sZ, sS, i64_w, i32_w]
  rfl
 refine take_ (i := 1) (N := some 40) (v := ?_) (a' := ?_) (bl 14 1291) rfl rfl (take_ofW HT_.out HW_.out (by kernel_rfl)) (fun _ _ _ h => h) (Or.inl ⟨by rfl, ?_⟩) hHeld ?_ ?_
 rotate_left
 ·rintro w' ⟨s0, s1, s2, s3⟩
  go_simp
  with_reducible rfl
 rotate_left
 ·simp only [Act.put, sA, sZ, sS, i64_w, i32_w]
  rfl
 refine take_ (i := 4) (N := some 43) (v := ?_) (a' := ?_) (bl 14 1307) rfl rfl (take_ofW HT_.out HW_.out (by kernel_rfl)) (fun _ _ _ h => h) (Or.inl ⟨by rfl, ?_⟩) hHeld ?_ ?_
 rotate_left
 ·rintro w' ⟨s0, s1, s2, s3⟩
  go_simp
  with_reducible rfl
 rotate_left
 ·simp only [Act.put, sA, sZ, sS, i64_w, i32_w]
  rfl
 refine take_ (i := 9) (N := some 48) (v := ?_) (a' := ?_) (bl 14 1819) rfl rfl (take_ofW HT_.out HW_.out (by kernel_rfl)) (fun _ _ _ h => h) (Or.inl ⟨by rfl, ?_⟩) hHeld ?_ ?_
 rotate_left
 ·rintro w' ⟨s0, s1, s2, s3⟩
  go_simp
  with_reducible rfl
 rotate_left
 ·simp only [Act.put, sA, sZ, sS, i64_w, i32_w]
  rfl
 refine take_ (i := 11) (N := some 50) (v := ?_) (a' := ?_) (bl 14 3867) rfl rfl (take_ofW HT_.out HW_.out (by kernel_rfl)) (fun _ _ _ h => h) (Or.inl ⟨by rfl, ?_⟩) hHeld ?_ ?_
 rotate_left
 ·rintro w' ⟨s0, s1, s2, s3⟩
  go_simp
  with_reducible rfl
 rotate_left
 ·simp only [Act.put, sA, sZ, sS, i64_w, i32_w]
  rfl
 refine join_ (σ := Value × Value × Value) 3 (bl 14 3967) (fun s_ => [(41, s_.1), (44, s_.2.1), (45, s_.2.2)]) (fun s_ w' => (w'.cell? ⟨gb301, 0, none⟩ = some (.slice A0_0 l0_0.length c0_0) ∧ w'.cell? ⟨gb301, 1, none⟩ = some (.slice A0_1 l0_1.length c0_1) ∧ w'.cell? ⟨gb301, 2, none⟩ = some (.slice A0_2 l0_2.length c0_2) ∧ w'.cell? ⟨gb301, 3, none⟩ = some (.int .i64 a0_3)) ∧ (Kd.S k52 52 w' w.heap.size (fun k_ => some k_ ≠ (v308 : Value).ownBlock) v305 t304) ∧ (Kd.S k52 52 w' w.heap.size (fun k_ => some k_ ≠ (v305 : Value).ownBlock) v308 t307) ∧ (Kd.R (Kd.int .i64) 2 w' w.heap.size (fun k_ => some k_ ≠ (s_.2.2 : Value).ownBlock) s_.2.1 y313) ∧ (Kd.R (Kd.int .i64) 2 w' w.heap.size (fun k_ => some k_ ≠ (s_.2.1 : Value).ownBlock) s_.2.2 y316) ∧ (w'.heap[gb301]? = some (.cells #[.slice A0_0 l0_0.length c0_0, .slice A0_1 l0_1.length c0_1, .slice A0_2 l0_2.length c0_2, .int .i64 a0_3] 43 (0, 0))) ∧ (Below w.heap.size w w')) ?_ ?_
 rotate_left
 ·intro hCont
  refine two_ (i := 2) (j := 6) (Ni := some 41) (Nj := some 45) (bl 14 3871) (bl 14 3931) rfl rfl rfl rfl (two_of HT_.out (by kernel_rfl)) (by decide) (by decide) (fun K hK => ?_) (fun K hK => ?_)
  rotate_left
  ·skip
   refine Kd.R_lit_step (Kd.int .i64) _ 2 ?hg (N := 45) ?hd (xs := ([0, 0] : List Int)) (inner := [.int .i64 0, .int .i64 0]) (ok := fun _ => True) (okp := fun _ => True) ?hr ?hp (fun _ hk => hk) trivial (Below.refl _ _) (Nat.le_refl _) (by simp) ?_; (case hd => rfl); (case hg => rfl); (case hr => first | (go_simp; done) | (go_simp; rfl)); (case hp => exact (Reps.one (show Kd.M (Kd.int .i64) _ _ _ 0 [.int .i64 0] from rfl) (Reps.one (show Kd.M (Kd.int .i64) _ _ _ 0 [.int .i64 0] from rfl) (Reps.none _ _))))
   intro v317 w22 ho23 hb hg_ hnew_
   clear hg_ hnew_
   (first | rw [← Ny316.out] at ho23 | (simp only [Int.reduceToNat] at ho23; rw [← Ny316.out] at ho23))
   replace HO306 := am (Kd.S_below (by (with_reducible repeat (first | apply Kd.S_alloc | apply Kd.S_drewN | apply Kd.S_drew)); exact HO306.out) hb)
   replace HO309 := am (Kd.S_below (by (with_reducible repeat (first | apply Kd.S_alloc | apply Kd.S_drewN | apply Kd.S_drew)); exact HO309.out) hb)
   have HO318 := am (Kd.R_lower ho23 (below_size (by repeat (first | (with_reducible first | exact HB.out | apply lA | apply lN | apply lD | refine lS ?_ GE301.out) | exact HB.out))))
   replace BK301 := am (blk_below (g := gb301) (o := .cells #[.slice A0_0 l0_0.length c0_0, .slice A0_1 l0_1.length c0_1, .slice A0_2 l0_2.length c0_2, .int .i64 a0_3] 43 (0, 0)) (by (with_reducible repeat (first | refine bN ?_ _ | refine bD ?_ | refine bA ?_ _)); exact BK301.out) hb)
   replace HB := am (below_step (by repeat (first | (with_reducible first | exact HB.out | apply lA | apply lN | apply lD | refine lS ?_ GE301.out) | exact HB.out)) hb)
   clear hb ho23
   refine hK.out _ _ ⟨(blk_cell BK301.out 0).trans rfl, (blk_cell BK301.out 1).trans rfl, (blk_cell BK301.out 2).trans rfl, (blk_cell BK301.out 3).trans rfl⟩ (fun hHeld => ?_)
   clear hK K
   refine norm_ (a' := ?_) ?_ ?_
   rotate_left
   ·show Act.put _ (some 45) _ = _
    simp only [Act.put, sA, sZ, sS, i64_w, i32_w]
    rfl
   refine one_ (i := 2) (N := some 41) (bl 14 3935) rfl rfl (one_of HT_.out (by kernel_rfl)) (by decide) (fun K hK => ?_)
   refine Kd.R_lit_step (Kd.int .i64) _ 2 ?hg (N := 41) ?hd (xs := ([] : List Int)) (inner := []) (ok := fun _ => True) (okp := fun _ => True) ?hr ?hp (fun _ hk => hk) trivial (Below.refl _ _) (Nat.le_refl _) (by simp) ?_; (case hd => rfl); (case hg => rfl); (case hr => first | (go_simp; done) | (go_simp; rfl)); (case hp => exact (Reps.none _ _))
   intro v311 w24 ho25 hb hg_ hnew_
   clear hg_ hnew_
   (first | rw [← Ny310.out] at ho25 | (simp only [Int.reduceToNat] at ho25; rw [← Ny310.out] at ho25))
   replace HO306 := am (Kd.S_below (by (with_reducible repeat (first | apply Kd.S_alloc | apply Kd.S_drewN | apply Kd.S_drew)); exact HO306.out) hb)
   replace HO309 := am (Kd.S_below (by (with_reducible repeat (first | apply Kd.S_alloc | apply Kd.S_drewN | apply Kd.S_drew)); exact HO309.out) hb)
   have HO312 := am (Kd.R_lower (Kd.R_new' ho25 (Kd.R_lt (by (with_reducible repeat (first | apply Ra | apply Rn | apply Rd)); exact HO318.out))) (below_size (by repeat (first | (with_reducible first | exact HB.out | apply lA | apply lN | apply lD | refine lS ?_ GE301.out) | exact HB.out))))
   replace HO318 := am (Kd.R_elder' (by (with_reducible repeat (first | apply Ra | apply Rn | apply Rd)); exact HO318.out) (Kd.R_base ho25) hb)
   replace BK301 := am (blk_below (g := gb301) (o := .cells #[.slice A0_0 l0_0.length c0_0, .slice A0_1 l0_1.length c0_1, .slice A0_2 l0_2.length c0_2, .int .i64 a0_3] 43 (0, 0)) (by (with_reducible repeat (first | refine bN ?_ _ | refine bD ?_ | refine bA ?_ _)); exact BK301.out) hb)
   replace HB := am (below_step (by repeat (first | (with_reducible first | exact HB.out | apply lA | apply lN | apply lD | refine lS ?_ GE301.out) | exact HB.out)) hb)
   clear hb ho25
   refine hK.out _ _ ⟨(blk_cell BK301.out 0).trans rfl, (blk_cell BK301.out 1).trans rfl, (blk_cell BK301.out 2).trans rfl, (blk_cell BK301.out 3).trans rfl⟩ (fun hHeld => ?_)
   clear hK K
   refine norm_ (a' := ?_) ?_ ?_
   rotate_left
   ·show Act.put _ (some 41) _ = _
    simp only [Act.put, sA, sZ, sS, i64_w, i32_w]
    rfl
   refine one_ (i := 5) (N := some 44) (bl 14 3967) rfl rfl (one_of HT_.out (by kernel_rfl)) (by decide) (fun K hK => ?_)
   refine Kd.R_append_rows_step (Kd.int .i64) (w0 := w) w.heap.size (by rfl) (.tmp 41) (.tmp 43) 40 2 (.int .i64 0) 8 rfl Try.underlying40 info2 rfl (by decide) (by omega) v311 y310 l0_1 _ _ _ (fun k_ => some k_ ≠ (v317 : Value).ownBlock) (fun _ => False) rfl rfl ?aO ?aR (fun _ _ h => h) (fun _ h => h.elim) ?aF ?aB ?aS ?aL ?_
   (case aR => repeat (first | exact (Kd.C_below HR0_1.out HB.out) | (with_reducible refine Kd.C_alloc ?_ _) | (with_reducible refine Kd.C_drewN ?_ _) | (with_reducible refine Kd.C_drew ?_)))
   (case aB => exact (by repeat (first | (with_reducible first | exact HB.out | apply lA | apply lN | apply lD | refine lS ?_ GE301.out) | exact HB.out)))
   (case aF => exact (fun k_ hk => Kd.fresh' (Kd.R_lt (by (with_reducible repeat (first | apply Ra | apply Rn | apply Rd)); exact HO318.out)) k_ hk))
   (case aO => exact (by (with_reducible repeat (first | apply Ra | apply Rn | apply Rd)); exact Kd.R_mono HO312.out (fun _ hk => hk.2)))
   (case aS => exact (below_size (by repeat (first | (with_reducible first | exact HB.out | apply lA | apply lN | apply lD | refine lS ?_ GE301.out) | exact HB.out))))
   (case aL => have := LMc9.out; omega)
   intro v314 w26 ho hb hg hat
   rw [← Ny313.out] at ho
   replace BK301 := am (blk_grown (g := gb301) (o := .cells #[.slice A0_0 l0_0.length c0_0, .slice A0_1 l0_1.length c0_1, .slice A0_2 l0_2.length c0_2, .int .i64 a0_3] 43 (0, 0)) (by (with_reducible repeat (first | refine bN ?_ _ | refine bD ?_ | refine bA ?_ _)); exact BK301.out) hg (Kd.R_ne HO312.out BK301.out (by decide)))
   replace HO306 := am (Kd.S_over' (by (with_reducible repeat (first | apply Kd.S_alloc | apply Kd.S_drewN | apply Kd.S_drew)); exact HO306.out) (Kd.R_typed (by (with_reducible repeat (first | apply Ra | apply Rn | apply Rd)); exact HO312.out)) (by decide) hg)
   replace HO309 := am (Kd.S_over' (by (with_reducible repeat (first | apply Kd.S_alloc | apply Kd.S_drewN | apply Kd.S_drew)); exact HO309.out) (Kd.R_typed (by (with_reducible repeat (first | apply Ra | apply Rn | apply Rd)); exact HO312.out)) (by decide) hg)
   replace HO318 := am (Kd.R_after (ok := (fun _ => True)) (by (with_reducible repeat (first | apply Ra | apply Rn | apply Rd)); exact HO318.out) hg hat)
   replace HB := am (hb)
   have HO315 := am (ho)
   clear HO312
   clear ho hb hg hat
   refine hK.out _ _ ⟨(blk_cell BK301.out 0).trans rfl, (blk_cell BK301.out 1).trans rfl, (blk_cell BK301.out 2).trans rfl, (blk_cell BK301.out 3).trans rfl⟩ (fun hHeld => ?_)
   clear hK K
   refine norm_ (a' := ?_) ?_ ?_
   rotate_left
   ·show Act.put _ (some 44) _ = _
    simp only [Act.put, sA, sZ, sS, i64_w, i32_w]
    rfl
   exact norm_ (by simp only [putAll, Act.put, List.setIfInBounds_toArray, List.set_cons_zero, List.set_cons_succ]) (hCont (v311, v314, v317) _ ⟨hHeld, (by (with_reducible repeat (first | apply Kd.S_alloc | apply Kd.S_drewN | apply Kd.S_drew)); exact Kd.S_mono HO306.out (fun _ hk => hk.2)), (by (with_reducible repeat (first | apply Kd.S_alloc | apply Kd.S_drewN | apply Kd.S_drew)); exact Kd.S_mono HO309.out (fun _ hk => hk.2)), (by (with_reducible repeat (first | apply Ra | apply Rn | apply Rd)); exact HO315.out), (by (with_reducible repeat (first | apply Ra | apply Rn | apply Rd)); exact Kd.R_mono HO318.out (fun _ hk => hk.2)), (by (with_reducible repeat (first | refine bN ?_ _ | refine bD ?_ | refine bA ?_ _)); exact BK301.out), (by repeat (first | (with_reducible first | exact HB.out | apply lA | apply lN | apply lD | refine lS ?_ GE301.out) | exact HB.out))⟩)
  skip
  refine Kd.R_lit_step (Kd.int .i64) _ 2 ?hg (N := 41) ?hd (xs := ([] : List Int)) (inner := []) (ok := fun _ => True) (okp := fun _ => True) ?hr ?hp (fun _ hk => hk) trivial (Below.refl _ _) (Nat.le_refl _) (by simp) ?_; (case hd => rfl); (case hg => rfl); (case hr => first | (go_simp; done) | (go_simp; rfl)); (case hp => exact (Reps.none _ _))
  intro v311 w22 ho23 hb hg_ hnew_
  clear hg_ hnew_
  (first | rw [← Ny310.out] at ho23 | (simp only [Int.reduceToNat] at ho23; rw [← Ny310.out] at ho23))
  replace HO306 := am (Kd.S_below (by (with_reducible repeat (first | apply Kd.S_alloc | apply Kd.S_drewN | apply Kd.S_drew)); exact HO306.out) hb)
  replace HO309 := am (Kd.S_below (by (with_reducible repeat (first | apply Kd.S_alloc | apply Kd.S_drewN | apply Kd.S_drew)); exact HO309.out) hb)
  have HO312 := am (Kd.R_lower ho23 (below_size (by repeat (first | (with_reducible first | exact HB.out | apply lA | apply lN | apply lD | refine lS ?_ GE301.out) | exact HB.out))))
  replace BK301 := am (blk_below (g := gb301) (o := .cells #[.slice A0_0 l0_0.length c0_0, .slice A0_1 l0_1.length c0_1, .slice A0_2 l0_2.length c0_2, .int .i64 a0_3] 43 (0, 0)) (by (with_reducible repeat (first | refine bN ?_ _ | refine bD ?_ | refine bA ?_ _)); exact BK301.out) hb)
  replace HB := am (below_step (by repeat (first | (with_reducible first | exact HB.out | apply lA | apply lN | apply lD | refine lS ?_ GE301.out) | exact HB.out)) hb)
  clear hb ho23
  refine hK.out _ _ ⟨(blk_cell BK301.out 0).trans rfl, (blk_cell BK301.out 1).trans rfl, (blk_cell BK301.out 2).trans rfl, (blk_cell BK301.out 3).trans rfl⟩ (fun hHeld => ?_)
  clear hK K
  refine norm_ (a' := ?_) ?_ ?_
  rotate_left
  ·show Act.put _ (some 41) _ = _
   simp only [Act.put, sA, sZ, sS, i64_w, i32_w]
   rfl
  refine two_ (i := 5) (j := 6) (Ni := some 44) (Nj := some 45) (bl 14 3903) (bl 14 3935) rfl rfl rfl rfl (two_of HT_.out (by kernel_rfl)) (by decide) (by decide) (fun K hK => ?_) (fun K hK => ?_)
  ·skip
   refine Kd.R_append_rows_step (Kd.int .i64) (w0 := w) w.heap.size (by rfl) (.tmp 41) (.tmp 43) 40 2 (.int .i64 0) 8 rfl Try.underlying40 info2 rfl (by decide) (by omega) v311 y310 l0_1 _ _ _ (fun _ => True) (fun _ => False) rfl rfl ?aO ?aR (fun _ _ h => h) (fun _ h => h.elim) ?aF ?aB ?aS ?aL ?_
   (case aR => repeat (first | exact (Kd.C_below HR0_1.out HB.out) | (with_reducible refine Kd.C_alloc ?_ _) | (with_reducible refine Kd.C_drewN ?_ _) | (with_reducible refine Kd.C_drew ?_)))
   (case aB => exact (by repeat (first | (with_reducible first | exact HB.out | apply lA | apply lN | apply lD | refine lS ?_ GE301.out) | exact HB.out)))
   (case aF => exact (fun _ _ => trivial))
   (case aO => exact (by (with_reducible repeat (first | apply Ra | apply Rn | apply Rd)); exact HO312.out))
   (case aS => exact (below_size (by repeat (first | (with_reducible first | exact HB.out | apply lA | apply lN | apply lD | refine lS ?_ GE301.out) | exact HB.out))))
   (case aL => have := LMc9.out; omega)
   intro v314 w24 ho hb hg hat
   rw [← Ny313.out] at ho
   replace BK301 := am (blk_grown (g := gb301) (o := .cells #[.slice A0_0 l0_0.length c0_0, .slice A0_1 l0_1.length c0_1, .slice A0_2 l0_2.length c0_2, .int .i64 a0_3] 43 (0, 0)) (by (with_reducible repeat (first | refine bN ?_ _ | refine bD ?_ | refine bA ?_ _)); exact BK301.out) hg (Kd.R_ne HO312.out BK301.out (by decide)))
   replace HO306 := am (Kd.S_over' (by (with_reducible repeat (first | apply Kd.S_alloc | apply Kd.S_drewN | apply Kd.S_drew)); exact HO306.out) (Kd.R_typed (by (with_reducible repeat (first | apply Ra | apply Rn | apply Rd)); exact HO312.out)) (by decide) hg)
   replace HO309 := am (Kd.S_over' (by (with_reducible repeat (first | apply Kd.S_alloc | apply Kd.S_drewN | apply Kd.S_drew)); exact HO309.out) (Kd.R_typed (by (with_reducible repeat (first | apply Ra | apply Rn | apply Rd)); exact HO312.out)) (by decide) hg)
   replace HB := am (hb)
   have HO315 := am (ho)
   clear HO312
   clear ho hb hg hat
   refine hK.out _ _ ⟨(blk_cell BK301.out 0).trans rfl, (blk_cell BK301.out 1).trans rfl, (blk_cell BK301.out 2).trans rfl, (blk_cell BK301.out 3).trans rfl⟩ (fun hHeld => ?_)
   clear hK K
   refine norm_ (a' := ?_) ?_ ?_
   rotate_left
   ·show Act.put _ (some 44) _ = _
    simp only [Act.put, sA, sZ, sS, i64_w, i32_w]
    rfl
   refine one_ (i := 6) (N := some 45) (bl 14 3967) rfl rfl (one_of HT_.out (by kernel_rfl)) (by decide) (fun K hK => ?_)
   refine Kd.R_lit_step (Kd.int .i64) _ 2 ?hg (N := 45) ?hd (xs := ([0, 0] : List Int)) (inner := [.int .i64 0, .int .i64 0]) (ok := fun _ => True) (okp := fun _ => True) ?hr ?hp (fun _ hk => hk) trivial (Below.refl _ _) (Nat.le_refl _) (by simp) ?_; (case hd => rfl); (case hg => rfl); (case hr => first | (go_simp; done) | (go_simp; rfl)); (case hp => exact (Reps.one (show Kd.M (Kd.int .i64) _ _ _ 0 [.int .i64 0] from rfl) (Reps.one (show Kd.M (Kd.int .i64) _ _ _ 0 [.int .i64 0] from rfl) (Reps.none _ _))))
   intro v317 w25 ho26 hb hg_ hnew_
   clear hg_ hnew_
   (first | rw [← Ny316.out] at ho26 | (simp only [Int.reduceToNat] at ho26; rw [← Ny316.out] at ho26))
   replace HO306 := am (Kd.S_below (by (with_reducible repeat (first | apply Kd.S_alloc | apply Kd.S_drewN | apply Kd.S_drew)); exact HO306.out) hb)
   replace HO309 := am (Kd.S_below (by (with_reducible repeat (first | apply Kd.S_alloc | apply Kd.S_drewN | apply Kd.S_drew)); exact HO309.out) hb)
   have HO318 := am (Kd.R_lower (Kd.R_new' ho26 (Kd.R_lt (by (with_reducible repeat (first | apply Ra | apply Rn | apply Rd)); exact HO315.out))) (below_size (by repeat (first | (with_reducible first | exact HB.out | apply lA | apply lN | apply lD | refine lS ?_ GE301.out) | exact HB.out))))
   replace HO315 := am (Kd.R_elder' (by (with_reducible repeat (first | apply Ra | apply Rn | apply Rd)); exact HO315.out) (Kd.R_base ho26) hb)
   replace BK301 := am (blk_below (g := gb301) (o := .cells #[.slice A0_0 l0_0.length c0_0, .slice A0_1 l0_1.length c0_1, .slice A0_2 l0_2.length c0_2, .int .i64 a0_3] 43 (0, 0)) (by (with_reducible repeat (first | refine bN ?_ _ | refine bD ?_ | refine bA ?_ _)); exact BK301.out) hb)
   replace HB := am (below_step (by repeat (first | (with_reducible first | exact HB.out | apply lA | apply lN | apply lD | refine lS ?_ GE301.out) | exact HB.out)) hb)
   clear hb ho26
   refine hK.out _ _ ⟨(blk_cell BK301.out 0).trans rfl, (blk_cell BK301.out 1).trans rfl, (blk_cell BK301.out 2).trans rfl, (blk_cell BK301.out 3).trans rfl⟩ (fun hHeld => ?_)
   clear hK K
   refine norm_ (a' := ?_) ?_ ?_
   rotate_left
   ·show Act.put _ (some 45) _ = _
    simp only [Act.put, sA, sZ, sS, i64_w, i32_w]
    rfl
   exact norm_ (by simp only [putAll, Act.put, List.setIfInBounds_toArray, List.set_cons_zero, List.set_cons_succ]) (hCont (v311, v314, v317) _ ⟨hHeld, (by (with_reducible repeat (first | apply Kd.S_alloc | apply Kd.S_drewN | apply Kd.S_drew)); exact Kd.S_mono HO306.out (fun _ hk => hk.2)), (by (with_reducible repeat (first | apply Kd.S_alloc | apply Kd.S_drewN | apply Kd.S_drew)); exact Kd.S_mono HO309.out (fun _ hk => hk.2)), (by (with_reducible repeat (first | apply Ra | apply Rn | apply Rd)); exact Kd.R_mono HO315.out (fun _ hk => hk.2)), (by (with_reducible repeat (first | apply Ra | apply Rn | apply Rd)); exact Kd.R_mono HO318.out (fun _ hk => hk.2)), (by (with_reducible repeat (first | refine bN ?_ _ | refine bD ?_ | refine bA ?_ _)); exact BK301.out), (by repeat (first | (with_reducible first | exact HB.out | apply lA | apply lN | apply lD | refine lS ?_ GE301.out) | exact HB.out))⟩)
  skip
  refine Kd.R_lit_step (Kd.int .i64) _ 2 ?hg (N := 45) ?hd (xs := ([0, 0] : List Int)) (inner := [.int .i64 0, .int .i64 0]) (ok := fun _ => True) (okp := fun _ => True) ?hr ?hp (fun _ hk => hk) trivial (Below.refl _ _) (Nat.le_refl _) (by simp) ?_; (case hd => rfl); (case hg => rfl); (case hr => first | (go_simp; done) | (go_simp; rfl)); (case hp => exact (Reps.one (show Kd.M (Kd.int .i64) _ _ _ 0 [.int .i64 0] from rfl) (Reps.one (show Kd.M (Kd.int .i64) _ _ _ 0 [.int .i64 0] from rfl) (Reps.none _ _))))
  intro v317 w24 ho25 hb hg_ hnew_
  clear hg_ hnew_
  (first | rw [← Ny316.out] at ho25 | (simp only [Int.reduceToNat] at ho25; rw [← Ny316.out] at ho25))
  replace HO306 := am (Kd.S_below (by (with_reducible repeat (first | apply Kd.S_alloc | apply Kd.S_drewN | apply Kd.S_drew)); exact HO306.out) hb)
  replace HO309 := am (Kd.S_below (by (with_reducible repeat (first | apply Kd.S_alloc | apply Kd.S_drewN | apply Kd.S_drew)); exact HO309.out) hb)
  have HO318 := am (Kd.R_lower (Kd.R_new' ho25 (Kd.R_lt (by (with_reducible repeat (first | apply Ra | apply Rn | apply Rd)); exact HO312.out))) (below_size (by repeat (first | (with_reducible first | exact HB.out | apply lA | apply lN | apply lD | refine lS ?_ GE301.out) | exact HB.out))))
  replace HO312 := am (Kd.R_elder' (by (with_reducible repeat (first | apply Ra | apply Rn | apply Rd)); exact HO312.out) (Kd.R_base ho25) hb)
  replace BK301 := am (blk_below (g := gb301) (o := .cells #[.slice A0_0 l0_0.length c0_0, .slice A0_1 l0_1.length c0_1, .slice A0_2 l0_2.length c0_2, .int .i64 a0_3] 43 (0, 0)) (by (with_reducible repeat (first | refine bN ?_ _ | refine bD ?_ | refine bA ?_ _)); exact BK301.out) hb)
  replace HB := am (below_step (by repeat (first | (with_reducible first | exact HB.out | apply lA | apply lN | apply lD | refine lS ?_ GE301.out) | exact HB.out)) hb)
  clear hb ho25
  refine hK.out _ _ ⟨(blk_cell BK301.out 0).trans rfl, (blk_cell BK301.out 1).trans rfl, (blk_cell BK301.out 2).trans rfl, (blk_cell BK301.out 3).trans rfl⟩ (fun hHeld => ?_)
  clear hK K
  refine norm_ (a' := ?_) ?_ ?_
  rotate_left
  ·show Act.put _ (some 45) _ = _
   simp only [Act.put, sA, sZ, sS, i64_w, i32_w]
   rfl
  refine one_ (i := 5) (N := some 44) (bl 14 3967) rfl rfl (one_of HT_.out (by kernel_rfl)) (by decide) (fun K hK => ?_)
  refine Kd.R_append_rows_step (Kd.int .i64) (w0 := w) w.heap.size (by rfl) (.tmp 41) (.tmp 43) 40 2 (.int .i64 0) 8 rfl Try.underlying40 info2 rfl (by decide) (by omega) v311 y310 l0_1 _ _ _ (fun k_ => some k_ ≠ (v317 : Value).ownBlock) (fun _ => False) rfl rfl ?aO ?aR (fun _ _ h => h) (fun _ h => h.elim) ?aF ?aB ?aS ?aL ?_
  (case aR => repeat (first | exact (Kd.C_below HR0_1.out HB.out) | (with_reducible refine Kd.C_alloc ?_ _) | (with_reducible refine Kd.C_drewN ?_ _) | (with_reducible refine Kd.C_drew ?_)))
  (case aB => exact (by repeat (first | (with_reducible first | exact HB.out | apply lA | apply lN | apply lD | refine lS ?_ GE301.out) | exact HB.out)))
  (case aF => exact (fun k_ hk => Kd.fresh' (Kd.R_lt (by (with_reducible repeat (first | apply Ra | apply Rn | apply Rd)); exact HO318.out)) k_ hk))
  (case aO => exact (by (with_reducible repeat (first | apply Ra | apply Rn | apply Rd)); exact Kd.R_mono HO312.out (fun _ hk => hk.2)))
  (case aS => exact (below_size (by repeat (first | (with_reducible first | exact HB.out | apply lA | apply lN | apply lD | refine lS ?_ GE301.out) | exact HB.out))))
  (case aL => have := LMc9.out; omega)
  intro v314 w26 ho hb hg hat
  rw [← Ny313.out] at ho
  replace BK301 := am (blk_grown (g := gb301) (o := .cells #[.slice A0_0 l0_0.length c0_0, .slice A0_1 l0_1.length c0_1, .slice A0_2 l0_2.length c0_2, .int .i64 a0_3] 43 (0, 0)) (by (with_reducible repeat (first | refine bN ?_ _ | refine bD ?_ | refine bA ?_ _)); exact BK301.out) hg (Kd.R_ne HO312.out BK301.out (by decide)))
  replace HO306 := am (Kd.S_over' (by (with_reducible repeat (first | apply Kd.S_alloc | apply Kd.S_drewN | apply Kd.S_drew)); exact HO306.out) (Kd.R_typed (by (with_reducible repeat (first | apply Ra | apply Rn | apply Rd)); exact HO312.out)) (by decide) hg)
  replace HO309 := am (Kd.S_over' (by (with_reducible repeat (first | apply Kd.S_alloc | apply Kd.S_drewN | apply Kd.S_drew)); exact HO309.out) (Kd.R_typed (by (with_reducible repeat (first | apply Ra | apply Rn | apply Rd)); exact HO312.out)) (by decide) hg)
  replace HO318 := am (Kd.R_after (ok := (fun _ => True)) (by (with_reducible repeat (first | apply Ra | apply Rn | apply Rd)); exact HO318.out) hg hat)
  replace HB := am (hb)
  have HO315 := am (ho)
  clear HO312
  clear ho hb hg hat
  refine hK.out _ _ ⟨(blk_cell BK301.out 0).trans rfl, (blk_cell BK301.out 1).trans rfl, (blk_cell BK301.out 2).trans rfl, (blk_cell BK301.out 3).trans rfl⟩ (fun hHeld => ?_)
  clear hK K
  refine norm_ (a' := ?_) ?_ ?_
  rotate_left
  ·show Act.put _ (some 44) _ = _
   simp only [Act.put, sA, sZ, sS, i64_w, i32_w]
   rfl
  exact norm_ (by simp only [putAll, Act.put, List.setIfInBounds_toArray, List.set_cons_zero, List.set_cons_succ]) (hCont (v311, v314, v317) _ ⟨hHeld, (by (with_reducible repeat (first | apply Kd.S_alloc | apply Kd.S_drewN | apply Kd.S_drew)); exact Kd.S_mono HO306.out (fun _ hk => hk.2)), (by (with_reducible repeat (first | apply Kd.S_alloc | apply Kd.S_drewN | apply Kd.S_drew)); exact Kd.S_mono HO309.out (fun _ hk => hk.2)), (by (with_reducible repeat (first | apply Ra | apply Rn | apply Rd)); exact HO315.out), (by (with_reducible repeat (first | apply Ra | apply Rn | apply Rd)); exact Kd.R_mono HO318.out (fun _ hk => hk.2)), (by (with_reducible repeat (first | refine bN ?_ _ | refine bD ?_ | refine bA ?_ _)); exact BK301.out), (by repeat (first | (with_reducible first | exact HB.out | apply lA | apply lN | apply lD | refine lS ?_ GE301.out) | exact HB.out))⟩)
 rintro ⟨v311, v314, v317⟩ w27 ⟨hS_, h0_, h1_, h2_, h3_, h4_, h5_⟩
 replace HO306 : Aside0 (Kd.S k52 52 w27 w.heap.size (fun k_ => some k_ ≠ (v308 : Value).ownBlock) v305 t304) := ⟨h0_⟩
 replace HO309 : Aside0 (Kd.S k52 52 w27 w.heap.size (fun k_ => some k_ ≠ (v305 : Value).ownBlock) v308 t307) := ⟨h1_⟩
 have HO315 : Aside0 (Kd.R (Kd.int .i64) 2 w27 w.heap.size (fun k_ => some k_ ≠ (v317 : Value).ownBlock) v314 y313) := ⟨h2_⟩
 have HO318 : Aside0 (Kd.R (Kd.int .i64) 2 w27 w.heap.size (fun k_ => some k_ ≠ (v314 : Value).ownBlock) v317 y316) := ⟨h3_⟩
 replace BK301 : Aside0 (w27.heap[gb301]? = some (.cells #[.slice A0_0 l0_0.length c0_0, .slice A0_1 l0_1.length c0_1, .slice A0_2 l0_2.length c0_2, .int .i64 a0_3] 43 (0, 0))) := ⟨h4_⟩
 replace HB : Aside0 (Below w.heap.size w w27) := ⟨h5_⟩
 clear h0_ h1_ h2_ h3_ h4_ h5_
 have hHeld : w27.cell? ⟨gb301, 0, none⟩ = some (.slice A0_0 l0_0.length c0_0) ∧ w27.cell? ⟨gb301, 1, none⟩ = some (.slice A0_1 l0_1.length c0_1) ∧ w27.cell? ⟨gb301, 2, none⟩ = some (.slice A0_2 l0_2.length c0_2) ∧ w27.cell? ⟨gb301, 3, none⟩ = some (.int .i64 a0_3) := hS_
 obtain ⟨Ao29, co29, eo29⟩ := Kd.R_slice HO318.out
 (first | subst eo29 | (injection eo29 with f1_ f2_ f3_; have f4_ := f1_.symm; have f5_ := f3_.symm; clear f1_ f2_ f3_; subst f4_; subst f5_))
 refine norm_ (a' := ?_) ?_ ?_
 rotate_left
 ·simp only [putAll, Act.put, List.setIfInBounds_toArray, List.set_cons_zero, List.set_cons_succ]
  rfl
 refine one_ (i := 7) (N := some 46) (bl 14 4095) rfl rfl (one_of HT_.out (by kernel_rfl)) (by decide) (fun K hK => ?_)
 refine Kd.R_append_rows_step (Kd.int .i64) (w0 := w) w.heap.size (by rfl) (.tmp 44) (.tmp 45) 40 2 (.int .i64 0) 8 rfl Try.underlying40 info2 rfl (by decide) (by omega) v314 y313 y316 _ _ _ (fun k_ => some k_ ≠ (.slice Ao29 y316.length co29 : Value).ownBlock) (fun _ => False) rfl rfl ?aO ?aR (fun _ _ h => h) (fun _ h => h.elim) ?aF ?aB ?aS ?aL ?_
 (case aR => repeat (first | exact (Kd.R_reads' HO318.out).2.2 | (with_reducible refine Kd.C_alloc ?_ _) | (with_reducible refine Kd.C_drewN ?_ _) | (with_reducible refine Kd.C_drew ?_)))
 (case aB => exact (by repeat (first | (with_reducible first | exact HB.out | apply lA | apply lN | apply lD | refine lS ?_ GE301.out) | exact HB.out)))
 (case aF => exact (fun k_ hk => Kd.fresh' (Kd.R_lt (by (with_reducible repeat (first | apply Ra | apply Rn | apply Rd)); exact HO318.out)) k_ hk))
 (case aO => exact (by (with_reducible repeat (first | apply Ra | apply Rn | apply Rd)); exact HO315.out))
 (case aS => exact (below_size (by repeat (first | (with_reducible first | exact HB.out | apply lA | apply lN | apply lD | refine lS ?_ GE301.out) | exact HB.out))))
 (case aL => have := LMc10.out; omega)
 intro v320 w28 ho hb hg hat
 rw [← Ny319.out] at ho
 replace BK301 := am (blk_grown (g := gb301) (o := .cells #[.slice A0_0 l0_0.length c0_0, .slice A0_1 l0_1.length c0_1, .slice A0_2 l0_2.length c0_2, .int .i64 a0_3] 43 (0, 0)) (by (with_reducible repeat (first | refine bN ?_ _ | refine bD ?_ | refine bA ?_ _)); exact BK301.out) hg (Kd.R_ne HO315.out BK301.out (by decide)))
 replace HO306 := am (Kd.S_over' (by (with_reducible repeat (first | apply Kd.S_alloc | apply Kd.S_drewN | apply Kd.S_drew)); exact HO306.out) (Kd.R_typed (by (with_reducible repeat (first | apply Ra | apply Rn | apply Rd)); exact HO315.out)) (by decide) hg)
 replace HO309 := am (Kd.S_over' (by (with_reducible repeat (first | apply Kd.S_alloc | apply Kd.S_drewN | apply Kd.S_drew)); exact HO309.out) (Kd.R_typed (by (with_reducible repeat (first | apply Ra | apply Rn | apply Rd)); exact HO315.out)) (by decide) hg)
 replace HO318 := am (Kd.R_after (ok := (fun _ => True)) (by (with_reducible repeat (first | apply Ra | apply Rn | apply Rd)); exact Kd.R_mono HO318.out (fun _ hk => ⟨trivial, hk⟩)) hg hat)
 replace HB := am (hb)
 have HO321 := am (ho)
 clear HO315
 clear ho hb hg hat
 obtain ⟨Ao30, co30, eo30⟩ := Kd.R_slice HO321.out
 (first | subst eo30 | (injection eo30 with f1_ f2_ f3_; have f4_ := f1_.symm; have f5_ := f3_.symm; clear f1_ f2_ f3_; subst f4_; subst f5_))
 refine hK.out _ _ ⟨(blk_cell BK301.out 0).trans rfl, (blk_cell BK301.out 1).trans rfl, (blk_cell BK301.out 2).trans rfl, (blk_cell BK301.out 3).trans rfl⟩ (fun hHeld => ?_)
 clear hK K
 refine norm_ (a' := ?_) ?_ ?_
 rotate_left
 ·show Act.put _ (some 46) _ = _
  simp only [Act.put, sA, sZ, sS, i64_w, i32_w]
  rfl
 refine one_ (i := 12) (N := some 51) (bl 14 8191) rfl rfl (one_of HT_.out (by kernel_rfl)) (by decide) (fun K hK => ?_)
 refine goes_ Try.func36 (by kernel_rfl) rfl #[.slice A0_0 l0_0.length c0_0, .slice Ao30 y319.length co30, .slice A0_2 l0_2.length c0_2, .int .i64 a0_3] (by rfl) rfl rfl (by (try simp only [List.map_toArray, List.map_cons, List.map_nil]); first | done | rfl | (simp only [List.length_drop, List.length_take]; rfl)) ?_
 with_reducible refine (interp_Run.calls _ _ l0_0 _ _ y319 _ _ l0_2 a0_3 t322 _ ?side1 ?side2 ?side3 ?side4 ?side5 ?side6 A11.out).mono ?_
 (case side1 => repeat (first | exact (Kd.C_below HR0_0.out HB.out) | (with_reducible refine Kd.C_alloc ?_ _) | (with_reducible refine Kd.C_drewN ?_ _) | (with_reducible refine Kd.C_drew ?_)))
 (case side2 => exact HC0_0.out)
 (case side3 => repeat (first | exact (Kd.R_reads' HO321.out).2.2 | (with_reducible refine Kd.C_alloc ?_ _) | (with_reducible refine Kd.C_drewN ?_ _) | (with_reducible refine Kd.C_drew ?_)))
 (case side4 => exact (Kd.R_reads' HO321.out).2.1)
 (case side5 => repeat (first | exact (Kd.C_below HR0_2.out HB.out) | (with_reducible refine Kd.C_alloc ?_ _) | (with_reducible refine Kd.C_drewN ?_ _) | (with_reducible refine Kd.C_drew ?_)))
 (case side6 => exact HC0_2.out)
 rintro e w31 ⟨v323, rfl, ho0, hb⟩
 refine ⟨_, rfl, ?_⟩
 replace HO318 := am (Kd.R_below (by (with_reducible repeat (first | apply Ra | apply Rn | apply Rd)); exact HO318.out) hb)
 replace HO321 := am (Kd.R_below (by (with_reducible repeat (first | apply Ra | apply Rn | apply Rd)); exact HO321.out) hb)
 have HO324 := am (Kd.S_lower (Kd.S_new' (Kd.S_new' ho0 (Kd.S_lt (by (with_reducible repeat (first | apply Kd.S_alloc | apply Kd.S_drewN | apply Kd.S_drew)); exact HO306.out))) (Kd.S_lt (by (with_reducible repeat (first | apply Kd.S_alloc | apply Kd.S_drewN | apply Kd.S_drew)); exact HO309.out))) (below_size (by repeat (first | (with_reducible first | exact HB.out | apply lA | apply lN | apply lD | refine lS ?_ GE301.out) | exact HB.out))))
 replace HO306 := am (Kd.S_elder' (by (with_reducible repeat (first | apply Kd.S_alloc | apply Kd.S_drewN | apply Kd.S_drew)); exact HO306.out) (Kd.S_base ho0) hb)
 replace HO309 := am (Kd.S_elder' (by (with_reducible repeat (first | apply Kd.S_alloc | apply Kd.S_drewN | apply Kd.S_drew)); exact HO309.out) (Kd.S_base ho0) hb)
 replace BK301 := am (blk_below (g := gb301) (o := .cells #[.slice A0_0 l0_0.length c0_0, .slice A0_1 l0_1.length c0_1, .slice A0_2 l0_2.length c0_2, .int .i64 a0_3] 43 (0, 0)) (by (with_reducible repeat (first | refine bN ?_ _ | refine bD ?_ | refine bA ?_ _)); exact BK301.out) hb)
 replace HB := am (below_step (by repeat (first | (with_reducible first | exact HB.out | apply lA | apply lN | apply lD | refine lS ?_ GE301.out) | exact HB.out)) hb)
 (try clear hb)
 (try clear hb2)
 (try clear hk)
 (try clear hi)
 (try clear ho0)
 refine hK.out _ _ ⟨(blk_cell BK301.out 0).trans rfl, (blk_cell BK301.out 1).trans rfl, (blk_cell BK301.out 2).trans rfl, (blk_cell BK301.out 3).trans rfl⟩ (fun hHeld => ?_)
 clear hK K
 refine norm_ (a' := ?_) ?_ ?_
 rotate_left
 ·show Act.put _ (some 51) _ = _
  simp only [Act.put, sA, sZ, sS, i64_w, i32_w]
  rfl
 refine pure_ (i := 13) (N := some 8) (v := ?_) (a' := ?_) (bl 14 16383) rfl rfl (any_of HT_.out (by kernel_rfl)) (fun _ _ _ h => h) (Or.inl ⟨by rfl, ?_⟩) ?_ ?_
 rotate_left
 ·intro w'
  go_simp
  with_reducible rfl
 rotate_left
 ·simp only [Act.put, sA, sZ, sS, i64_w, i32_w]
  rfl
 refine done_ (done_of HT_.out (by kernel_rfl)) ?_
 go_upto_region 7 with (fail)
 go_cut [63] (fun v63 wc => ∃ (kq : Nat) (x63_11 : Bool), v63 = .bool x63_11 ∧ Aside0 (lambrequinlaw22_InterpMore.j0 kq t302 t304 t307 t322 x63_11 = some r) ∧ Aside0 (kq ≤ k) ∧ Aside0 (Kd.S k52 52 wc w.heap.size (fun k_ => some k_ ≠ (v308 : Value).ownBlock ∧ some k_ ≠ (v323 : Value).ownBlock) v305 t304) ∧ Aside0 (Kd.S k52 52 wc w.heap.size (fun k_ => some k_ ≠ (v305 : Value).ownBlock ∧ some k_ ≠ (v323 : Value).ownBlock) v308 t307) ∧ Aside0 (Kd.S k52 52 wc w.heap.size (fun k_ => some k_ ≠ (v305 : Value).ownBlock ∧ some k_ ≠ (v308 : Value).ownBlock) v323 t322) ∧ Aside0 (wc.heap[gb301]? = some (.cells #[(.slice A0_0 l0_0.length c0_0), (.slice A0_1 l0_1.length c0_1), (.slice A0_2 l0_2.length c0_2), .int .i64 a0_3] 43 (0, 0))) ∧ Aside0 (Below w.heap.size w wc))
 case first =>
  have H := HC12.out
  clear HC12
  by_cases c32 : (t304.length : Int) > (t307.length : Int)
  ·rw [if_pos c32] at H
   have c32b0 : decide ((t307.length : Int) < (t304.length : Int)) = true := decide_eq_true c32
   have c32b1 : decide (t307.length < t304.length) = true := decide_eq_true (Int.ofNat_lt.mp c32)
   clear c32
   (first | rw [c32b0] | (simp only [i64_w, i32_w]; rw [c32b0]) | skip)
   have H' := am H
   clear H
   obtain ⟨Ao33, co33, eo33⟩ := Kd.S_slice HO306.out
   subst eo33
   obtain ⟨Ao34, co34, eo34⟩ := Kd.S_slice HO309.out
   subst eo34
   go_wp2
   go_meet
   case rel => exact ⟨_, (true), (by first | rfl | (simp; done) | (simp [*]; done)), H', ⟨by first | omega | exact Nat.le_refl _⟩, ⟨by (with_reducible repeat (first | apply Kd.S_alloc | apply Kd.S_drewN | apply Kd.S_drew)); exact HO306.out⟩, ⟨by (with_reducible repeat (first | apply Kd.S_alloc | apply Kd.S_drewN | apply Kd.S_drew)); exact HO309.out⟩, ⟨by (with_reducible repeat (first | apply Kd.S_alloc | apply Kd.S_drewN | apply Kd.S_drew)); exact Kd.S_mono HO324.out (fun _ hk => ⟨hk.1.2, hk.2⟩)⟩, ⟨by (with_reducible repeat (first | refine bN ?_ _ | refine bD ?_ | refine bA ?_ _)); exact BK301.out⟩, ⟨by repeat (first | (with_reducible first | exact HB.out | apply lA | apply lN | apply lD | refine lS ?_ GE301.out) | exact HB.out)⟩⟩
  rw [if_neg c32] at H
  have c32b0 : decide ((t307.length : Int) < (t304.length : Int)) = false := decide_eq_false c32
  have c32b1 : decide (t307.length < t304.length) = false := decide_eq_false (fun h => c32 (Int.ofNat_lt.mpr h))
  clear c32
  (first | rw [c32b0] | (simp only [i64_w, i32_w]; rw [c32b0]) | skip)
  have H' := am H
  clear H
  obtain ⟨Ao35, co35, eo35⟩ := Kd.S_slice HO306.out
  subst eo35
  obtain ⟨Ao36, co36, eo36⟩ := Kd.S_slice HO309.out
  subst eo36
  obtain ⟨Ao37, co37, eo37⟩ := Kd.S_slice HO324.out
  subst eo37
  go_wp2
  go_meet
  case rel => exact ⟨_, (((t304.length : Int) != (t322.length : Int))), (by first | rfl | (simp; done) | (simp [*]; done)), H', ⟨by first | omega | exact Nat.le_refl _⟩, ⟨by (with_reducible repeat (first | apply Kd.S_alloc | apply Kd.S_drewN | apply Kd.S_drew)); exact HO306.out⟩, ⟨by (with_reducible repeat (first | apply Kd.S_alloc | apply Kd.S_drewN | apply Kd.S_drew)); exact HO309.out⟩, ⟨by (with_reducible repeat (first | apply Kd.S_alloc | apply Kd.S_drewN | apply Kd.S_drew)); exact Kd.S_mono HO324.out (fun _ hk => ⟨hk.1.2, hk.2⟩)⟩, ⟨by (with_reducible repeat (first | refine bN ?_ _ | refine bD ?_ | refine bA ?_ _)); exact BK301.out⟩, ⟨by repeat (first | (with_reducible first | exact HB.out | apply lA | apply lN | apply lD | refine lS ?_ GE301.out) | exact HB.out)⟩⟩
 case rest =>
  clear HC12
  try clear c1
  try clear p2
  try clear c3
  try clear c5
  try clear p6
  try clear c8
  try clear c9
  try clear c10
  try clear c32
  try clear c32b0
  try clear c32b1
  try clear c33
  try clear c34
  try clear c36
  try clear hcz15_0
  try clear hcz15_1
  try clear hcz15_2
  try clear hcz15_3
  try clear hcz17_0
  try clear hcz17_1
  try clear hcz17_2
  try clear hcz17_3
  try clear hcz19_0
  try clear hcz19_1
  try clear hcz19_2
  try clear hcz19_3
  try clear hfz15_0
  try clear hfz15_1
  try clear hfz15_2
  try clear hfz15_3
  try clear hfz17_0
  try clear hfz17_1
  try clear hfz17_2
  try clear hfz17_3
  try clear hfz19_0
  try clear hfz19_1
  try clear hfz19_2
  try clear hfz19_3
  obtain ⟨kq, x63_11, rfl, HA, HJ11, HO_6, HO_7, HO_8, BK301, HB⟩ := hcut
  cases kq with
  | zero => exact absurd HA.out (by simp [lambrequinlaw22_InterpMore.j0])
  | succ kj11 =>
   have H := HA.out
   clear HA
   simp only [lambrequinlaw22_InterpMore.j0] at H
   as_aux_lemma =>
   by_cases c38 : x63_11 = true
   ·subst c38
    have H1 : (some false) = some r := by rw [if_pos rfl] at H; exact H
    clear H
    have H := H1
    clear H1
    obtain rfl := Option.some.inj H
    go_wp2
    go_ret
    exact ⟨by first | rfl | (simp [errW_none, errW_some] <;> rfl) | (simp only [← hji7]; first | rfl | (simp [errW_none, errW_some] <;> rfl)) | (simp [*, errW_none, errW_some] <;> rfl), by repeat (first | (with_reducible first | exact HB.out | apply lA | apply lN | apply lD | refine lS ?_ GE301.out) | exact HB.out)⟩
   replace c38 := Bool.eq_false_iff.mpr c38
   subst c38
   have H1 : (lambrequinlaw22_InterpMore.l0 kj11 t302 t304 t307 t322 0) = some r := by rw [if_neg (show ¬ (false = true) by decide)] at H; exact H
   clear H
   have H := H1
   clear H1
   have H' := am H
   clear H
   go_wp2
   go_loopg [9] kj11 (fun kq v9 w' => ∃ (x9_2 : Int), v9 = .int .i64 x9_2 ∧ Aside0 (lambrequinlaw22_InterpMore.l0 kq t302 t304 t307 t322 x9_2 = some r) ∧ Aside0 (kq ≤ kj11) ∧ Aside0 (Kd.S k52 52 w' w.heap.size (fun k_ => some k_ ≠ (v308 : Value).ownBlock ∧ some k_ ≠ (v323 : Value).ownBlock) v305 t304) ∧ Aside0 (Kd.S k52 52 w' w.heap.size (fun k_ => some k_ ≠ (v305 : Value).ownBlock ∧ some k_ ≠ (v323 : Value).ownBlock) v308 t307) ∧ Aside0 (Kd.S k52 52 w' w.heap.size (fun k_ => some k_ ≠ (v305 : Value).ownBlock ∧ some k_ ≠ (v308 : Value).ownBlock) v323 t322) ∧ Aside0 (w'.heap[gb301]? = some (.cells #[(.slice A0_0 l0_0.length c0_0), (.slice A0_1 l0_1.length c0_1), (.slice A0_2 l0_2.length c0_2), .int .i64 a0_3] 43 (0, 0))) ∧ Aside0 (Below w.heap.size w w'))
   case atStart => exact ⟨(0), (by first | rfl | (simp; done) | (simp [*]; done)), H', ⟨Nat.le_refl _⟩, ⟨by (with_reducible repeat (first | apply Kd.S_alloc | apply Kd.S_drewN | apply Kd.S_drew)); exact HO_6.out⟩, ⟨by (with_reducible repeat (first | apply Kd.S_alloc | apply Kd.S_drewN | apply Kd.S_drew)); exact HO_7.out⟩, ⟨by (with_reducible repeat (first | apply Kd.S_alloc | apply Kd.S_drewN | apply Kd.S_drew)); exact HO_8.out⟩, ⟨by (with_reducible repeat (first | refine bN ?_ _ | refine bD ?_ | refine bA ?_ _)); exact BK301.out⟩, ⟨by repeat (first | (with_reducible first | exact HB.out | apply lA | apply lN | apply lD | refine lS ?_ GE301.out) | exact HB.out)⟩⟩
   case round =>
    clear H'
    try clear c1
    try clear p2
    try clear c3
    try clear c5
    try clear p6
    try clear c8
    try clear c9
    try clear c10
    try clear c32
    try clear c32b0
    try clear c32b1
    try clear c33
    try clear c34
    try clear c36
    try clear c38
    try clear hcz15_0
    try clear hcz15_1
    try clear hcz15_2
    try clear hcz15_3
    try clear hcz17_0
    try clear hcz17_1
    try clear hcz17_2
    try clear hcz17_3
    try clear hcz19_0
    try clear hcz19_1
    try clear hcz19_2
    try clear hcz19_3
    try clear hfz15_0
    try clear hfz15_1
    try clear hfz15_2
    try clear hfz15_3
    try clear hfz17_0
    try clear hfz17_1
    try clear hfz17_2
    try clear hfz17_3
    try clear hfz19_0
    try clear hfz19_1
    try clear hfz19_2
    try clear hfz19_3
    try clear p2
    try clear p6
    obtain ⟨x9_2, rfl, HA, HK2, HO_6, HO_7, HO_8, BK301, HB⟩ := hrel
    cases gk with
    | zero => exact absurd HA.out (by simp [lambrequinlaw22_InterpMore.l0])
    | succ k2 =>
     have H := HA.out
     clear HA
     simp only [lambrequinlaw22_InterpMore.l0] at H
     as_aux_lemma =>
     by_cases c39 : x9_2 < (t304.length : Int)
     rotate_left
     ·rw [if_neg c39] at H
      have c39b0 : decide (x9_2 < (t304.length : Int)) = false := decide_eq_false c39
      clear c39
      obtain rfl := Option.some.inj H
      obtain ⟨Ao78, co78, eo78⟩ := Kd.S_slice HO_6.out
      subst eo78
      go_wp2
      go_ret
      exact ⟨by first | rfl | (simp [errW_none, errW_some] <;> rfl) | (simp only [← hji7]; first | rfl | (simp [errW_none, errW_some] <;> rfl)) | (simp [*, errW_none, errW_some] <;> rfl), by repeat (first | (with_reducible first | exact HB.out | apply lA | apply lN | apply lD | refine lS ?_ GE301.out) | exact HB.out)⟩
     rw [if_pos c39] at H
     have c39b0 : decide (x9_2 < (t304.length : Int)) = true := decide_eq_true c39
     clear c39
     have HC40 := am H
     clear H
     obtain ⟨Ao41, co41, eo41⟩ := Kd.S_slice HO_6.out
     subst eo41
     go_upto_region 12 with (fail)
     go_cut [123] (fun v123 wc => ∃ (kq : Nat) (x123_39 : Bool), v123 = .bool x123_39 ∧ Aside0 (lambrequinlaw22_InterpMore.j2 kq t302 t304 t307 t322 x9_2 x123_39 = some r) ∧ Aside0 (kq ≤ k2) ∧ Aside0 (Kd.S k52 52 wc w.heap.size (fun k_ => some k_ ≠ (v308 : Value).ownBlock ∧ some k_ ≠ (v323 : Value).ownBlock) (.slice Ao41 t304.length co41) t304) ∧ Aside0 (Kd.S k52 52 wc w.heap.size (fun k_ => some k_ ≠ ((.slice Ao41 t304.length co41) : Value).ownBlock ∧ some k_ ≠ (v323 : Value).ownBlock) v308 t307) ∧ Aside0 (Kd.S k52 52 wc w.heap.size (fun k_ => some k_ ≠ ((.slice Ao41 t304.length co41) : Value).ownBlock ∧ some k_ ≠ (v308 : Value).ownBlock) v323 t322) ∧ Aside0 (wc.heap[gb301]? = some (.cells #[(.slice A0_0 l0_0.length c0_0), (.slice A0_1 l0_1.length c0_1), (.slice A0_2 l0_2.length c0_2), .int .i64 a0_3] 43 (0, 0))) ∧ Aside0 (Below w.heap.size w wc))
     case first =>
      have H := HC40.out
      clear HC40
      as_aux_lemma =>
      by_cases c42 : 0 ≤ x9_2
      rotate_left
      ·rw [if_neg c42] at H
       exact absurd H (by simp)
      rw [if_pos c42] at H
      have c42b0 : decide (0 ≤ x9_2) = true := decide_eq_true c42
      clear c42
      (first | rw [c42b0] | (simp only [i64_w, i32_w]; rw [c42b0]) | skip)
      as_aux_lemma =>
      by_cases c43 : x9_2 < (t307.length : Int)
      rotate_left
      ·rw [if_neg c43] at H
       exact absurd H (by simp)
      rw [if_pos c43] at H
      have c43b0 : decide (x9_2 < (t307.length : Int)) = true := decide_eq_true c43
      clear c43
      as_aux_lemma =>
      by_cases c44 : ((rd_T52 t304 x9_2).place) = ((rd_T52 t307 x9_2).place)
      rotate_left
      ·rw [if_neg c44] at H
       have c44b0 : (((rd_T52 t304 x9_2).place) == ((rd_T52 t307 x9_2).place)) = false := beq_eq_false_iff_ne.mpr c44
       have c44b1 : (((rd_T52 t304 x9_2).place) != ((rd_T52 t307 x9_2).place)) = true := bne_iff_ne.mpr c44
       have H' := am H
       clear H
       try go_wp2
       replace HO_6 := am (Kd.S_drew HO_6.out)
       replace HO_7 := am (Kd.S_drew HO_7.out)
       replace HO_8 := am (Kd.S_drew HO_8.out)
       replace BK301 := am (blk_drew BK301.out)
       replace HB := am (below_drew1 HB.out)
       have p325 : 0 ≤ (x9_2 : Int) := of_decide_eq_true (by first | (with_reducible assumption) | assumption)
       have q325 : x9_2 < (t304.length : Int) := of_decide_eq_true (by first | (with_reducible assumption) | assumption)
       obtain ⟨ad325, A325_1, c325_1, e325, hx325_0, hx325_1, hl325_1, hi325_1⟩ := at_T52 (Kd.S_reads' HO_6.out).2.2 x9_2 p325 q325
       cases e325
       obtain ⟨ce325, hce325, hMe325, hcc325⟩ := Kd.S_get HO_6.out z52 x9_2 p325 (by first | exact q325 | exact of_decide_eq_true (by first | (with_reducible assumption) | assumption) | (have e_ := (Kd.S_reads' HO_6.out).1; omega))
       obtain ⟨ve325_1, rfl, ge325_1⟩ := k52_openM hMe325
       have hv325_1 := hcc325 1 _ rfl
       rw [add_field _ _ 1 (by omega)] at hv325_1
       replace hv325_1 := Option.some.inj (hv325_1.symm.trans hx325_1)
       rw [hv325_1] at ge325_1
       have HL325_1 := am (show Kd.R k54 54 _ _ _ _ ((rd_T52 t304 x9_2).vars) from ge325_1)
       clear hv325_1 ge325_1
       clear hcc325 hce325
       have HR325_1 := am hi325_1
       have HC325_1 := am hl325_1
       clear hi325_1 hl325_1
       replace p325 := eq_true p325
       replace q325 := eq_true q325
       obtain ⟨Ao58, co58, eo58⟩ := Kd.S_slice HO_7.out
       (first | subst eo58 | (injection eo58 with f1_ f2_ f3_; have f4_ := f1_.symm; have f5_ := f3_.symm; clear f1_ f2_ f3_; subst f4_; subst f5_))
       have p326 : 0 ≤ (x9_2 : Int) := of_decide_eq_true (by first | (with_reducible assumption) | assumption)
       have q326 : x9_2 < (t307.length : Int) := of_decide_eq_true (by first | (with_reducible assumption) | assumption)
       obtain ⟨ad326, A326_1, c326_1, e326, hx326_0, hx326_1, hl326_1, hi326_1⟩ := at_T52 (Kd.S_reads' HO_7.out).2.2 x9_2 p326 q326
       cases e326
       obtain ⟨ce326, hce326, hMe326, hcc326⟩ := Kd.S_get HO_7.out z52 x9_2 p326 (by first | exact q326 | exact of_decide_eq_true (by first | (with_reducible assumption) | assumption) | (have e_ := (Kd.S_reads' HO_7.out).1; omega))
       obtain ⟨ve326_1, rfl, ge326_1⟩ := k52_openM hMe326
       have hv326_1 := hcc326 1 _ rfl
       rw [add_field _ _ 1 (by omega)] at hv326_1
       replace hv326_1 := Option.some.inj (hv326_1.symm.trans hx326_1)
       rw [hv326_1] at ge326_1
       have HL326_1 := am (show Kd.R k54 54 _ _ _ _ ((rd_T52 t307 x9_2).vars) from ge326_1)
       clear hv326_1 ge326_1
       clear hcc326 hce326
       have HR326_1 := am hi326_1
       have HC326_1 := am hl326_1
       clear hi326_1 hl326_1
       replace p326 := eq_true p326
       replace q326 := eq_true q326
       refine start_ (n := 54) (S := fun w' => w'.cell? (ad325.add ((x9_2).toNat * 2)) = some (.int .i64 ((rd_T52 t304 x9_2).place)) ∧ w'.cell? ⟨(ad325.add ((x9_2).toNat * 2)).block, (ad325.add ((x9_2).toNat * 2)).off + 1, none⟩ = some (.slice A325_1 ((rd_T52 t304 x9_2).vars).length c325_1) ∧ w'.cell? (ad326.add ((x9_2).toNat * 2)) = some (.int .i64 ((rd_T52 t307 x9_2).place)) ∧ w'.cell? ⟨(ad326.add ((x9_2).toNat * 2)).block, (ad326.add ((x9_2).toNat * 2)).off + 1, none⟩ = some (.slice A326_1 ((rd_T52 t307 x9_2).vars).length c326_1)) (ds := []) (bl 54 0) (by kernel_rfl) rfl rfl ⟨hx325_0, hx325_1, hx326_0, hx326_1⟩ (fun hHeld => ?_); refine with_tabW lambrequinlaw22_InterpMore.tab12 lambrequinlaw22_InterpMore.bits12 (fun HT_ HW_ => ?_)
       generalize wr.drew = w57 at HO_6 HO_7 HO_8 BK301 HB HL325_1 HL326_1 HR325_1 HR326_1 hx325_0 hx325_1 hx326_0 hx326_1 hHeld ⊢
       refine pure_ (i := 0) (N := some 70) (v := ?_) (a' := ?_) (bl 54 1) rfl rfl (any_of HT_.out (by kernel_rfl)) (fun _ _ _ h => h) (Or.inl ⟨by rfl, ?_⟩) ?_ ?_
       rotate_left
       ·intro w'
        go_simp
        with_reducible rfl
       rotate_left
       ·simp only [Act.put, sA, sZ, sS, i64_w, i32_w]
        rfl
       refine pure_ (i := 1) (N := some 71) (v := ?_) (a' := ?_) (bl 54 3) rfl rfl (any_of HT_.out (by kernel_rfl)) (fun _ _ _ h => h) (Or.inl ⟨by rfl, ?_⟩) ?_ ?_
       rotate_left
       ·intro w'
        go_simp
        with_reducible rfl
       rotate_left
       ·simp only [Act.put, sA, sZ, sS, i64_w, i32_w]
        rfl
       refine pure_ (i := 2) (N := some 72) (v := ?_) (a' := ?_) (bl 54 7) rfl rfl (any_of HT_.out (by kernel_rfl)) (fun _ _ _ h => h) (Or.inl ⟨by rfl, ?_⟩) ?_ ?_
       rotate_left
       ·intro w'
        go_simp
        with_reducible rfl
       rotate_left
       ·simp only [Act.put, sA, sZ, sS, i64_w, i32_w]
        rfl
       refine pure_ (i := 3) (N := some 73) (v := ?_) (a' := ?_) (bl 54 15) rfl rfl (any_of HT_.out (by kernel_rfl)) (fun _ _ _ h => h) (Or.inl ⟨by rfl, ?_⟩) ?_ ?_
       rotate_left
       ·intro w'
        go_simp
        with_reducible rfl
       rotate_left
       ·simp only [Act.put, sA, sZ, sS, i64_w, i32_w]
        rfl
       refine pure_ (i := 5) (N := some 75) (v := ?_) (a' := ?_) (bl 54 47) rfl rfl (any_of HT_.out (by kernel_rfl)) (fun _ _ _ h => h) (Or.inl ⟨by rfl, ?_⟩) ?_ ?_
       rotate_left
       ·intro w'
        go_simp
        with_reducible rfl
       rotate_left
       ·simp only [Act.put, sA, sZ, sS, i64_w, i32_w]
        rfl
       refine pure_ (i := 6) (N := some 76) (v := ?_) (a' := ?_) (bl 54 111) rfl rfl (any_of HT_.out (by kernel_rfl)) (fun _ _ _ h => h) (Or.inl ⟨by rfl, ?_⟩) ?_ ?_
       rotate_left
       ·intro w'
        go_simp
        with_reducible rfl
       rotate_left
       ·simp only [Act.put, sA, sZ, sS, i64_w, i32_w]
        rfl
       refine pure_ (i := 7) (N := some 77) (v := ?_) (a' := ?_) (bl 54 239) rfl rfl (any_of HT_.out (by kernel_rfl)) (fun _ _ _ h => h) (Or.inl ⟨by rfl, ?_⟩) ?_ ?_
       rotate_left
       ·intro w'
        go_simp
        with_reducible rfl
       rotate_left
       ·simp only [Act.put, sA, sZ, sS, i64_w, i32_w]
        rfl
       refine pure_ (i := 8) (N := some 78) (v := ?_) (a' := ?_) (bl 54 495) rfl rfl (any_of HT_.out (by kernel_rfl)) (fun _ _ _ h => h) (Or.inl ⟨by rfl, ?_⟩) ?_ ?_
       rotate_left
       ·intro w'
        go_simp
        with_reducible rfl
       rotate_left
       ·simp only [Act.put, sA, sZ, sS, i64_w, i32_w]
        rfl
       refine take_ (i := 4) (N := some 74) (v := ?_) (a' := ?_) (bl 54 511) rfl rfl (take_ofW HT_.out HW_.out (by kernel_rfl)) (fun _ _ _ h => h) (Or.inl ⟨by rfl, ?_⟩) hHeld ?_ ?_
       rotate_left
       ·rintro w' ⟨s0, s1, s2, s3⟩
        go_simp
        with_reducible rfl
       rotate_left
       ·simp only [Act.put, sA, sZ, sS, i64_w, i32_w]
        rfl
       refine take_ (i := 9) (N := some 79) (v := ?_) (a' := ?_) (bl 54 1023) rfl rfl (take_ofW HT_.out HW_.out (by kernel_rfl)) (fun _ _ _ h => h) (Or.inl ⟨by rfl, ?_⟩) hHeld ?_ ?_
       rotate_left
       ·rintro w' ⟨s0, s1, s2, s3⟩
        go_simp
        with_reducible rfl
       rotate_left
       ·simp only [Act.put, sA, sZ, sS, i64_w, i32_w]
        rfl
       refine pure_ (i := 10) (N := some 80) (v := ?_) (a' := ?_) (bl 54 2047) rfl rfl (any_of HT_.out (by kernel_rfl)) (fun _ _ _ h => h) (Or.inl ⟨by rfl, ?_⟩) ?_ ?_
       rotate_left
       ·intro w'
        go_simp
        with_reducible rfl
       rotate_left
       ·simp only [Act.put, sA, sZ, sS, i64_w, i32_w]
        rfl
       refine pure_ (i := 11) (N := some 81) (v := ?_) (a' := ?_) (bl 54 4095) rfl rfl (any_of HT_.out (by kernel_rfl)) (fun _ _ _ h => h) (Or.inl ⟨by rfl, ?_⟩) ?_ ?_
       rotate_left
       ·intro w'
        go_simp
        with_reducible rfl
       rotate_left
       ·simp only [Act.put, sA, sZ, sS, i64_w, i32_w]
        rfl
       refine pure_ (i := 12) (N := some 82) (v := undef) (a' := ?_) (bl 54 8191) rfl rfl (any_of HT_.out (by kernel_rfl)) (fun _ _ _ h => h) (Or.inr ⟨by rfl, rfl⟩) ?_ ?_
       rotate_left
       ·simp only [Act.put, sA, sZ, sS, i64_w, i32_w]
        rfl
       refine pure_ (i := 13) (N := some 83) (v := undef) (a' := ?_) (bl 54 16383) rfl rfl (any_of HT_.out (by kernel_rfl)) (fun _ _ _ h => h) (Or.inr ⟨by rfl, rfl⟩) ?_ ?_
       rotate_left
       ·simp only [Act.put, sA, sZ, sS, i64_w, i32_w]
        rfl
       refine pure_ (i := 14) (N := some 84) (v := undef) (a' := ?_) (bl 54 32767) rfl rfl (any_of HT_.out (by kernel_rfl)) (fun _ _ _ h => h) (Or.inr ⟨by rfl, rfl⟩) ?_ ?_
       rotate_left
       ·simp only [Act.put, sA, sZ, sS, i64_w, i32_w]
        rfl
       refine pure_ (i := 15) (N := some 85) (v := undef) (a' := ?_) (bl 54 65535) rfl rfl (any_of HT_.out (by kernel_rfl)) (fun _ _ _ h => h) (Or.inr ⟨by rfl, rfl⟩) ?_ ?_
       rotate_left
       ·simp only [Act.put, sA, sZ, sS, i64_w, i32_w]
        rfl
       refine pure_ (i := 16) (N := some 86) (v := undef) (a' := ?_) (bl 54 131071) rfl rfl (any_of HT_.out (by kernel_rfl)) (fun _ _ _ h => h) (Or.inr ⟨by rfl, rfl⟩) ?_ ?_
       rotate_left
       ·simp only [Act.put, sA, sZ, sS, i64_w, i32_w]
        rfl
       refine pure_ (i := 17) (N := some 87) (v := undef) (a' := ?_) (bl 54 262143) rfl rfl (any_of HT_.out (by kernel_rfl)) (fun _ _ _ h => h) (Or.inr ⟨by rfl, rfl⟩) ?_ ?_
       rotate_left
       ·simp only [Act.put, sA, sZ, sS, i64_w, i32_w]
        rfl
       refine pure_ (i := 18) (N := some 88) (v := undef) (a' := ?_) (bl 54 524287) rfl rfl (any_of HT_.out (by kernel_rfl)) (fun _ _ _ h => h) (Or.inr ⟨by rfl, rfl⟩) ?_ ?_
       rotate_left
       ·simp only [Act.put, sA, sZ, sS, i64_w, i32_w]
        rfl
       refine pure_ (i := 19) (N := some 89) (v := undef) (a' := ?_) (bl 54 1048575) rfl rfl (any_of HT_.out (by kernel_rfl)) (fun _ _ _ h => h) (Or.inr ⟨by rfl, rfl⟩) ?_ ?_
       rotate_left
       ·simp only [Act.put, sA, sZ, sS, i64_w, i32_w]
        rfl
       refine pure_ (i := 20) (N := some 90) (v := undef) (a' := ?_) (bl 54 2097151) rfl rfl (any_of HT_.out (by kernel_rfl)) (fun _ _ _ h => h) (Or.inr ⟨by rfl, rfl⟩) ?_ ?_
       rotate_left
       ·simp only [Act.put, sA, sZ, sS, i64_w, i32_w]
        rfl
       refine pure_ (i := 21) (N := some 91) (v := undef) (a' := ?_) (bl 54 4194303) rfl rfl (any_of HT_.out (by kernel_rfl)) (fun _ _ _ h => h) (Or.inr ⟨by rfl, rfl⟩) ?_ ?_
       rotate_left
       ·simp only [Act.put, sA, sZ, sS, i64_w, i32_w]
        rfl
       refine pure_ (i := 22) (N := some 92) (v := undef) (a' := ?_) (bl 54 8388607) rfl rfl (any_of HT_.out (by kernel_rfl)) (fun _ _ _ h => h) (Or.inr ⟨by rfl, rfl⟩) ?_ ?_
       rotate_left
       ·simp only [Act.put, sA, sZ, sS, i64_w, i32_w]
        rfl
       refine pure_ (i := 23) (N := some 93) (v := ?_) (a' := ?_) (bl 54 16777215) rfl rfl (any_of HT_.out (by kernel_rfl)) (fun _ _ _ h => h) (Or.inl ⟨by rfl, ?_⟩) ?_ ?_
       rotate_left
       ·intro w'
        go_simp
        with_reducible rfl
       rotate_left
       ·simp only [Act.put, sA, sZ, sS, i64_w, i32_w]
        rfl
       refine pure_ (i := 24) (N := some 94) (v := ?_) (a' := ?_) (bl 54 33554431) rfl rfl (any_of HT_.out (by kernel_rfl)) (fun _ _ _ h => h) (Or.inl ⟨by rfl, ?_⟩) ?_ ?_
       rotate_left
       ·intro w'
        go_simp
        with_reducible rfl
       rotate_left
       ·simp only [Act.put, sA, sZ, sS, i64_w, i32_w]
        rfl
       refine pure_ (i := 25) (N := some 95) (v := undef) (a' := ?_) (bl 54 67108863) rfl rfl (any_of HT_.out (by kernel_rfl)) (fun _ _ _ h => h) (Or.inr ⟨by rfl, rfl⟩) ?_ ?_
       rotate_left
       ·simp only [Act.put, sA, sZ, sS, i64_w, i32_w]
        rfl
       refine pure_ (i := 26) (N := some 96) (v := undef) (a' := ?_) (bl 54 134217727) rfl rfl (any_of HT_.out (by kernel_rfl)) (fun _ _ _ h => h) (Or.inr ⟨by rfl, rfl⟩) ?_ ?_
       rotate_left
       ·simp only [Act.put, sA, sZ, sS, i64_w, i32_w]
        rfl
       refine pure_ (i := 27) (N := some 97) (v := undef) (a' := ?_) (bl 54 268435455) rfl rfl (any_of HT_.out (by kernel_rfl)) (fun _ _ _ h => h) (Or.inr ⟨by rfl, rfl⟩) ?_ ?_
       rotate_left
       ·simp only [Act.put, sA, sZ, sS, i64_w, i32_w]
        rfl
       refine pure_ (i := 28) (N := some 98) (v := undef) (a' := ?_) (bl 54 536870911) rfl rfl (any_of HT_.out (by kernel_rfl)) (fun _ _ _ h => h) (Or.inr ⟨by rfl, rfl⟩) ?_ ?_
       rotate_left
       ·simp only [Act.put, sA, sZ, sS, i64_w, i32_w]
        rfl
       refine pure_ (i := 29) (N := some 99) (v := undef) (a' := ?_) (bl 54 1073741823) rfl rfl (any_of HT_.out (by kernel_rfl)) (fun _ _ _ h => h) (Or.inr ⟨by rfl, rfl⟩) ?_ ?_
       rotate_left
       ·simp only [Act.put, sA, sZ, sS, i64_w, i32_w]
        rfl
       refine pure_ (i := 30) (N := some 100) (v := undef) (a' := ?_) (bl 54 2147483647) rfl rfl (any_of HT_.out (by kernel_rfl)) (fun _ _ _ h => h) (Or.inr ⟨by rfl, rfl⟩) ?_ ?_
       rotate_left
       ·simp only [Act.put, sA, sZ, sS, i64_w, i32_w]
        rfl
       refine pure_ (i := 31) (N := some 101) (v := undef) (a' := ?_) (bl 54 4294967295) rfl rfl (any_of HT_.out (by kernel_rfl)) (fun _ _ _ h => h) (Or.inr ⟨by rfl, rfl⟩) ?_ ?_
       rotate_left
       ·simp only [Act.put, sA, sZ, sS, i64_w, i32_w]
        rfl
       refine pure_ (i := 32) (N := some 102) (v := undef) (a' := ?_) (bl 54 8589934591) rfl rfl (any_of HT_.out (by kernel_rfl)) (fun _ _ _ h => h) (Or.inr ⟨by rfl, rfl⟩) ?_ ?_
       rotate_left
       ·simp only [Act.put, sA, sZ, sS, i64_w, i32_w]
        rfl
       refine pure_ (i := 33) (N := some 103) (v := undef) (a' := ?_) (bl 54 17179869183) rfl rfl (any_of HT_.out (by kernel_rfl)) (fun _ _ _ h => h) (Or.inr ⟨by rfl, rfl⟩) ?_ ?_
       rotate_left
       ·simp only [Act.put, sA, sZ, sS, i64_w, i32_w]
        rfl
       refine pure_ (i := 34) (N := some 104) (v := undef) (a' := ?_) (bl 54 34359738367) rfl rfl (any_of HT_.out (by kernel_rfl)) (fun _ _ _ h => h) (Or.inr ⟨by rfl, rfl⟩) ?_ ?_
       rotate_left
       ·simp only [Act.put, sA, sZ, sS, i64_w, i32_w]
        rfl
       refine pure_ (i := 35) (N := some 105) (v := undef) (a' := ?_) (bl 54 68719476735) rfl rfl (any_of HT_.out (by kernel_rfl)) (fun _ _ _ h => h) (Or.inr ⟨by rfl, rfl⟩) ?_ ?_
       rotate_left
       ·simp only [Act.put, sA, sZ, sS, i64_w, i32_w]
        rfl
       refine pure_ (i := 36) (N := some 106) (v := undef) (a' := ?_) (bl 54 137438953471) rfl rfl (any_of HT_.out (by kernel_rfl)) (fun _ _ _ h => h) (Or.inr ⟨by rfl, rfl⟩) ?_ ?_
       rotate_left
       ·simp only [Act.put, sA, sZ, sS, i64_w, i32_w]
        rfl
       refine pure_ (i := 37) (N := some 107) (v := undef) (a' := ?_) (bl 54 274877906943) rfl rfl (any_of HT_.out (by kernel_rfl)) (fun _ _ _ h => h) (Or.inr ⟨by rfl, rfl⟩) ?_ ?_
       rotate_left
       ·simp only [Act.put, sA, sZ, sS, i64_w, i32_w]
        rfl
       refine pure_ (i := 38) (N := some 108) (v := ?_) (a' := ?_) (bl 54 549755813887) rfl rfl (any_of HT_.out (by kernel_rfl)) (fun _ _ _ h => h) (Or.inl ⟨by rfl, ?_⟩) ?_ ?_
       rotate_left
       ·intro w'
        go_simp
        with_reducible rfl
       rotate_left
       ·simp only [Act.put, sA, sZ, sS, i64_w, i32_w]
        rfl
       refine pure_ (i := 39) (N := some 109) (v := ?_) (a' := ?_) (bl 54 1099511627775) rfl rfl (any_of HT_.out (by kernel_rfl)) (fun _ _ _ h => h) (Or.inl ⟨by rfl, ?_⟩) ?_ ?_
       rotate_left
       ·intro w'
        go_simp
        with_reducible rfl
       rotate_left
       ·simp only [Act.put, sA, sZ, sS, i64_w, i32_w]
        rfl
       refine pure_ (i := 40) (N := some 110) (v := undef) (a' := ?_) (bl 54 2199023255551) rfl rfl (any_of HT_.out (by kernel_rfl)) (fun _ _ _ h => h) (Or.inr ⟨by rfl, rfl⟩) ?_ ?_
       rotate_left
       ·simp only [Act.put, sA, sZ, sS, i64_w, i32_w]
        rfl
       refine pure_ (i := 41) (N := some 111) (v := undef) (a' := ?_) (bl 54 4398046511103) rfl rfl (any_of HT_.out (by kernel_rfl)) (fun _ _ _ h => h) (Or.inr ⟨by rfl, rfl⟩) ?_ ?_
       rotate_left
       ·simp only [Act.put, sA, sZ, sS, i64_w, i32_w]
        rfl
       refine pure_ (i := 42) (N := some 112) (v := undef) (a' := ?_) (bl 54 8796093022207) rfl rfl (any_of HT_.out (by kernel_rfl)) (fun _ _ _ h => h) (Or.inr ⟨by rfl, rfl⟩) ?_ ?_
       rotate_left
       ·simp only [Act.put, sA, sZ, sS, i64_w, i32_w]
        rfl
       refine pure_ (i := 43) (N := some 113) (v := undef) (a' := ?_) (bl 54 17592186044415) rfl rfl (any_of HT_.out (by kernel_rfl)) (fun _ _ _ h => h) (Or.inr ⟨by rfl, rfl⟩) ?_ ?_
       rotate_left
       ·simp only [Act.put, sA, sZ, sS, i64_w, i32_w]
        rfl
       refine pure_ (i := 44) (N := some 114) (v := undef) (a' := ?_) (bl 54 35184372088831) rfl rfl (any_of HT_.out (by kernel_rfl)) (fun _ _ _ h => h) (Or.inr ⟨by rfl, rfl⟩) ?_ ?_
       rotate_left
       ·simp only [Act.put, sA, sZ, sS, i64_w, i32_w]
        rfl
       refine pure_ (i := 45) (N := some 115) (v := undef) (a' := ?_) (bl 54 70368744177663) rfl rfl (any_of HT_.out (by kernel_rfl)) (fun _ _ _ h => h) (Or.inr ⟨by rfl, rfl⟩) ?_ ?_
       rotate_left
       ·simp only [Act.put, sA, sZ, sS, i64_w, i32_w]
        rfl
       refine pure_ (i := 46) (N := some 116) (v := undef) (a' := ?_) (bl 54 140737488355327) rfl rfl (any_of HT_.out (by kernel_rfl)) (fun _ _ _ h => h) (Or.inr ⟨by rfl, rfl⟩) ?_ ?_
       rotate_left
       ·simp only [Act.put, sA, sZ, sS, i64_w, i32_w]
        rfl
       refine pure_ (i := 47) (N := some 117) (v := undef) (a' := ?_) (bl 54 281474976710655) rfl rfl (any_of HT_.out (by kernel_rfl)) (fun _ _ _ h => h) (Or.inr ⟨by rfl, rfl⟩) ?_ ?_
       rotate_left
       ·simp only [Act.put, sA, sZ, sS, i64_w, i32_w]
        rfl
       refine pure_ (i := 48) (N := some 118) (v := undef) (a' := ?_) (bl 54 562949953421311) rfl rfl (any_of HT_.out (by kernel_rfl)) (fun _ _ _ h => h) (Or.inr ⟨by rfl, rfl⟩) ?_ ?_
       rotate_left
       ·simp only [Act.put, sA, sZ, sS, i64_w, i32_w]
        rfl
       refine pure_ (i := 49) (N := some 119) (v := undef) (a' := ?_) (bl 54 1125899906842623) rfl rfl (any_of HT_.out (by kernel_rfl)) (fun _ _ _ h => h) (Or.inr ⟨by rfl, rfl⟩) ?_ ?_
       rotate_left
       ·simp only [Act.put, sA, sZ, sS, i64_w, i32_w]
        rfl
       refine pure_ (i := 50) (N := some 120) (v := undef) (a' := ?_) (bl 54 2251799813685247) rfl rfl (any_of HT_.out (by kernel_rfl)) (fun _ _ _ h => h) (Or.inr ⟨by rfl, rfl⟩) ?_ ?_
       rotate_left
       ·simp only [Act.put, sA, sZ, sS, i64_w, i32_w]
        rfl
       refine pure_ (i := 51) (N := some 121) (v := undef) (a' := ?_) (bl 54 4503599627370495) rfl rfl (any_of HT_.out (by kernel_rfl)) (fun _ _ _ h => h) (Or.inr ⟨by rfl, rfl⟩) ?_ ?_
       rotate_left
       ·simp only [Act.put, sA, sZ, sS, i64_w, i32_w]
        rfl
       refine pure_ (i := 52) (N := some 122) (v := undef) (a' := ?_) (bl 54 9007199254740991) rfl rfl (any_of HT_.out (by kernel_rfl)) (fun _ _ _ h => h) (Or.inr ⟨by rfl, rfl⟩) ?_ ?_
       rotate_left
       ·simp only [Act.put, sA, sZ, sS, i64_w, i32_w]
        rfl
       refine pure_ (i := 53) (N := some 123) (v := ?_) (a' := ?_) (bl 54 18014398509481983) rfl rfl (any_of HT_.out (by kernel_rfl)) (fun _ _ _ h => h) (Or.inl ⟨by rfl, ?_⟩) ?_ ?_
       rotate_left
       ·intro w'
        go_simp
        with_reducible rfl
       rotate_left
       ·simp only [Act.put, sA, sZ, sS, i64_w, i32_w]
        rfl
       refine done_ (done_of HT_.out (by kernel_rfl)) ?_
       try go_wp2
       go_meet
       case rel => exact ⟨_, (true), (by first | rfl | (simp; done) | (simp [*]; done)), H', ⟨by have := HJ11.out; have := HK2.out; first | omega | exact Nat.le_refl _⟩, ⟨by (with_reducible repeat (first | apply Kd.S_alloc | apply Kd.S_drewN | apply Kd.S_drew)); exact HO_6.out⟩, ⟨by (with_reducible repeat (first | apply Kd.S_alloc | apply Kd.S_drewN | apply Kd.S_drew)); exact HO_7.out⟩, ⟨by (with_reducible repeat (first | apply Kd.S_alloc | apply Kd.S_drewN | apply Kd.S_drew)); exact HO_8.out⟩, ⟨by (with_reducible repeat (first | refine bN ?_ _ | refine bD ?_ | refine bA ?_ _)); exact BK301.out⟩, ⟨by repeat (first | (with_reducible first | exact HB.out | apply lA | apply lN | apply lD | refine lS ?_ GE301.out) | exact HB.out)⟩⟩
      rw [if_pos c44] at H
      have c44b0 : (((rd_T52 t304 x9_2).place) == ((rd_T52 t307 x9_2).place)) = true := beq_iff_eq.mpr c44
      have c44b1 : (((rd_T52 t304 x9_2).place) != ((rd_T52 t307 x9_2).place)) = false := bne_eq_false_iff_eq.mpr c44
      clear c44
      as_aux_lemma =>
      by_cases c45 : x9_2 < (t322.length : Int)
      rotate_left
      ·rw [if_neg c45] at H
       exact absurd H (by simp)
      rw [if_pos c45] at H
      have c45b0 : decide (x9_2 < (t322.length : Int)) = true := decide_eq_true c45
      clear c45
      as_aux_lemma =>
      by_cases c46 : ((rd_T52 t304 x9_2).place) = ((rd_T52 t322 x9_2).place)
      rotate_left
      ·rw [if_neg c46] at H
       have c46b0 : (((rd_T52 t304 x9_2).place) == ((rd_T52 t322 x9_2).place)) = false := beq_eq_false_iff_ne.mpr c46
       have c46b1 : (((rd_T52 t304 x9_2).place) != ((rd_T52 t322 x9_2).place)) = true := bne_iff_ne.mpr c46
       have H' := am H
       clear H
       try go_wp2
       replace HO_6 := am (Kd.S_drew HO_6.out)
       replace HO_7 := am (Kd.S_drew HO_7.out)
       replace HO_8 := am (Kd.S_drew HO_8.out)
       replace BK301 := am (blk_drew BK301.out)
       replace HB := am (below_drew1 HB.out)
       have p325 : 0 ≤ (x9_2 : Int) := of_decide_eq_true (by first | (with_reducible assumption) | assumption)
       have q325 : x9_2 < (t304.length : Int) := of_decide_eq_true (by first | (with_reducible assumption) | assumption)
       obtain ⟨ad325, A325_1, c325_1, e325, hx325_0, hx325_1, hl325_1, hi325_1⟩ := at_T52 (Kd.S_reads' HO_6.out).2.2 x9_2 p325 q325
       cases e325
       obtain ⟨ce325, hce325, hMe325, hcc325⟩ := Kd.S_get HO_6.out z52 x9_2 p325 (by first | exact q325 | exact of_decide_eq_true (by first | (with_reducible assumption) | assumption) | (have e_ := (Kd.S_reads' HO_6.out).1; omega))
       obtain ⟨ve325_1, rfl, ge325_1⟩ := k52_openM hMe325
       have hv325_1 := hcc325 1 _ rfl
       rw [add_field _ _ 1 (by omega)] at hv325_1
       replace hv325_1 := Option.some.inj (hv325_1.symm.trans hx325_1)
       rw [hv325_1] at ge325_1
       have HL325_1 := am (show Kd.R k54 54 _ _ _ _ ((rd_T52 t304 x9_2).vars) from ge325_1)
       clear hv325_1 ge325_1
       clear hcc325 hce325
       have HR325_1 := am hi325_1
       have HC325_1 := am hl325_1
       clear hi325_1 hl325_1
       replace p325 := eq_true p325
       replace q325 := eq_true q325
       obtain ⟨Ao55, co55, eo55⟩ := Kd.S_slice HO_7.out
       (first | subst eo55 | (injection eo55 with f1_ f2_ f3_; have f4_ := f1_.symm; have f5_ := f3_.symm; clear f1_ f2_ f3_; subst f4_; subst f5_))
       have p326 : 0 ≤ (x9_2 : Int) := of_decide_eq_true (by first | (with_reducible assumption) | assumption)
       have q326 : x9_2 < (t307.length : Int) := of_decide_eq_true (by first | (with_reducible assumption) | assumption)
       obtain ⟨ad326, A326_1, c326_1, e326, hx326_0, hx326_1, hl326_1, hi326_1⟩ := at_T52 (Kd.S_reads' HO_7.out).2.2 x9_2 p326 q326
       cases e326
       obtain ⟨ce326, hce326, hMe326, hcc326⟩ := Kd.S_get HO_7.out z52 x9_2 p326 (by first | exact q326 | exact of_decide_eq_true (by first | (with_reducible assumption) | assumption) | (have e_ := (Kd.S_reads' HO_7.out).1; omega))
       obtain ⟨ve326_1, rfl, ge326_1⟩ := k52_openM hMe326
       have hv326_1 := hcc326 1 _ rfl
       rw [add_field _ _ 1 (by omega)] at hv326_1
       replace hv326_1 := Option.some.inj (hv326_1.symm.trans hx326_1)
       rw [hv326_1] at ge326_1
       have HL326_1 := am (show Kd.R k54 54 _ _ _ _ ((rd_T52 t307 x9_2).vars) from ge326_1)
       clear hv326_1 ge326_1
       clear hcc326 hce326
       have HR326_1 := am hi326_1
       have HC326_1 := am hl326_1
       clear hi326_1 hl326_1
       replace p326 := eq_true p326
       replace q326 := eq_true q326
       have p327 : 0 ≤ (x9_2 : Int) := of_decide_eq_true (by first | (with_reducible assumption) | assumption)
       have q327 : x9_2 < (t304.length : Int) := of_decide_eq_true (by first | (with_reducible assumption) | assumption)
       obtain ⟨ad327, A327_1, c327_1, e327, hx327_0, hx327_1, hl327_1, hi327_1⟩ := at_T52 (Kd.S_reads' HO_6.out).2.2 x9_2 p327 q327
       obtain rfl : ad325 = ad327 := (by injection e327)
       obtain ⟨ce327, hce327, hMe327, hcc327⟩ := Kd.S_get HO_6.out z52 x9_2 p327 (by first | exact q327 | exact of_decide_eq_true (by first | (with_reducible assumption) | assumption) | (have e_ := (Kd.S_reads' HO_6.out).1; omega))
       obtain ⟨ve327_1, rfl, ge327_1⟩ := k52_openM hMe327
       have hv327_1 := hcc327 1 _ rfl
       rw [add_field _ _ 1 (by omega)] at hv327_1
       replace hv327_1 := Option.some.inj (hv327_1.symm.trans hx327_1)
       rw [hv327_1] at ge327_1
       have HL327_1 := am (show Kd.R k54 54 _ _ _ _ ((rd_T52 t304 x9_2).vars) from ge327_1)
       clear hv327_1 ge327_1
       clear hcc327 hce327
       have HR327_1 := am hi327_1
       have HC327_1 := am hl327_1
       clear hi327_1 hl327_1
       replace p327 := eq_true p327
       replace q327 := eq_true q327
       have ea_ := Option.some.inj (hx325_1.symm.trans hx327_1)
       injection ea_ with ea_ en_ ec_
       subst ea_
       subst ec_
       clear en_
       obtain ⟨Ao56, co56, eo56⟩ := Kd.S_slice HO_8.out
       (first | subst eo56 | (injection eo56 with f1_ f2_ f3_; have f4_ := f1_.symm; have f5_ := f3_.symm; clear f1_ f2_ f3_; subst f4_; subst f5_))
       have p328 : 0 ≤ (x9_2 : Int) := of_decide_eq_true (by first | (with_reducible assumption) | assumption)
       have q328 : x9_2 < (t322.length : Int) := of_decide_eq_true (by first | (with_reducible assumption) | assumption)
       obtain ⟨ad328, A328_1, c328_1, e328, hx328_0, hx328_1, hl328_1, hi328_1⟩ := at_T52 (Kd.S_reads' HO_8.out).2.2 x9_2 p328 q328
       cases e328
       obtain ⟨ce328, hce328, hMe328, hcc328⟩ := Kd.S_get HO_8.out z52 x9_2 p328 (by first | exact q328 | exact of_decide_eq_true (by first | (with_reducible assumption) | assumption) | (have e_ := (Kd.S_reads' HO_8.out).1; omega))
       obtain ⟨ve328_1, rfl, ge328_1⟩ := k52_openM hMe328
       have hv328_1 := hcc328 1 _ rfl
       rw [add_field _ _ 1 (by omega)] at hv328_1
       replace hv328_1 := Option.some.inj (hv328_1.symm.trans hx328_1)
       rw [hv328_1] at ge328_1
       have HL328_1 := am (show Kd.R k54 54 _ _ _ _ ((rd_T52 t322 x9_2).vars) from ge328_1)
       clear hv328_1 ge328_1
       clear hcc328 hce328
       have HR328_1 := am hi328_1
       have HC328_1 := am hl328_1
       clear hi328_1 hl328_1
       replace p328 := eq_true p328
       replace q328 := eq_true q328
       refine start_ (n := 54) (S := fun w' => w'.cell? (ad325.add ((x9_2).toNat * 2)) = some (.int .i64 ((rd_T52 t304 x9_2).place)) ∧ w'.cell? ⟨(ad325.add ((x9_2).toNat * 2)).block, (ad325.add ((x9_2).toNat * 2)).off + 1, none⟩ = some (.slice A325_1 ((rd_T52 t304 x9_2).vars).length c325_1) ∧ w'.cell? (ad326.add ((x9_2).toNat * 2)) = some (.int .i64 ((rd_T52 t307 x9_2).place)) ∧ w'.cell? ⟨(ad326.add ((x9_2).toNat * 2)).block, (ad326.add ((x9_2).toNat * 2)).off + 1, none⟩ = some (.slice A326_1 ((rd_T52 t307 x9_2).vars).length c326_1) ∧ w'.cell? (ad325.add ((x9_2).toNat * 2)) = some (.int .i64 ((rd_T52 t304 x9_2).place)) ∧ w'.cell? ⟨(ad325.add ((x9_2).toNat * 2)).block, (ad325.add ((x9_2).toNat * 2)).off + 1, none⟩ = some (.slice A325_1 ((rd_T52 t304 x9_2).vars).length c325_1) ∧ w'.cell? (ad328.add ((x9_2).toNat * 2)) = some (.int .i64 ((rd_T52 t322 x9_2).place)) ∧ w'.cell? ⟨(ad328.add ((x9_2).toNat * 2)).block, (ad328.add ((x9_2).toNat * 2)).off + 1, none⟩ = some (.slice A328_1 ((rd_T52 t322 x9_2).vars).length c328_1)) (ds := []) (bl 54 0) (by kernel_rfl) rfl rfl ⟨hx325_0, hx325_1, hx326_0, hx326_1, hx327_0, hx327_1, hx328_0, hx328_1⟩ (fun hHeld => ?_); refine with_tabW lambrequinlaw22_InterpMore.tab12 lambrequinlaw22_InterpMore.bits12 (fun HT_ HW_ => ?_)
       generalize wr.drew = w54 at HO_6 HO_7 HO_8 BK301 HB HL325_1 HL326_1 HL327_1 HL328_1 HR325_1 HR326_1 HR327_1 HR328_1 hx325_0 hx325_1 hx326_0 hx326_1 hx327_0 hx327_1 hx328_0 hx328_1 hHeld ⊢
       refine pure_ (i := 0) (N := some 70) (v := ?_) (a' := ?_) (bl 54 1) rfl rfl (any_of HT_.out (by kernel_rfl)) (fun _ _ _ h => h) (Or.inl ⟨by rfl, ?_⟩) ?_ ?_
       rotate_left
       ·intro w'
        go_simp
        with_reducible rfl
       rotate_left
       ·simp only [Act.put, sA, sZ, sS, i64_w, i32_w]
        rfl
       refine pure_ (i := 1) (N := some 71) (v := ?_) (a' := ?_) (bl 54 3) rfl rfl (any_of HT_.out (by kernel_rfl)) (fun _ _ _ h => h) (Or.inl ⟨by rfl, ?_⟩) ?_ ?_
       rotate_left
       ·intro w'
        go_simp
        with_reducible rfl
       rotate_left
       ·simp only [Act.put, sA, sZ, sS, i64_w, i32_w]
        rfl
       refine pure_ (i := 2) (N := some 72) (v := ?_) (a' := ?_) (bl 54 7) rfl rfl (any_of HT_.out (by kernel_rfl)) (fun _ _ _ h => h) (Or.inl ⟨by rfl, ?_⟩) ?_ ?_
       rotate_left
       ·intro w'
        go_simp
        with_reducible rfl
       rotate_left
       ·simp only [Act.put, sA, sZ, sS, i64_w, i32_w]
        rfl
       refine pure_ (i := 3) (N := some 73) (v := ?_) (a' := ?_) (bl 54 15) rfl rfl (any_of HT_.out (by kernel_rfl)) (fun _ _ _ h => h) (Or.inl ⟨by rfl, ?_⟩) ?_ ?_
       rotate_left
       ·intro w'
        go_simp
        with_reducible rfl
       rotate_left
       ·simp only [Act.put, sA, sZ, sS, i64_w, i32_w]
        rfl
       refine pure_ (i := 5) (N := some 75) (v := ?_) (a' := ?_) (bl 54 47) rfl rfl (any_of HT_.out (by kernel_rfl)) (fun _ _ _ h => h) (Or.inl ⟨by rfl, ?_⟩) ?_ ?_
       rotate_left
       ·intro w'
        go_simp
        with_reducible rfl
       rotate_left
       ·simp only [Act.put, sA, sZ, sS, i64_w, i32_w]
        rfl
       refine pure_ (i := 6) (N := some 76) (v := ?_) (a' := ?_) (bl 54 111) rfl rfl (any_of HT_.out (by kernel_rfl)) (fun _ _ _ h => h) (Or.inl ⟨by rfl, ?_⟩) ?_ ?_
       rotate_left
       ·intro w'
        go_simp
        with_reducible rfl
       rotate_left
       ·simp only [Act.put, sA, sZ, sS, i64_w, i32_w]
        rfl
       refine pure_ (i := 7) (N := some 77) (v := ?_) (a' := ?_) (bl 54 239) rfl rfl (any_of HT_.out (by kernel_rfl)) (fun _ _ _ h => h) (Or.inl ⟨by rfl, ?_⟩) ?_ ?_
       rotate_left
       ·intro w'
        go_simp
        with_reducible rfl
       rotate_left
       ·simp only [Act.put, sA, sZ, sS, i64_w, i32_w]
        rfl
       refine pure_ (i := 8) (N := some 78) (v := ?_) (a' := ?_) (bl 54 495) rfl rfl (any_of HT_.out (by kernel_rfl)) (fun _ _ _ h => h) (Or.inl ⟨by rfl, ?_⟩) ?_ ?_
       rotate_left
       ·intro w'
        go_simp
        with_reducible rfl
       rotate_left
       ·simp only [Act.put, sA, sZ, sS, i64_w, i32_w]
        rfl
       refine take_ (i := 4) (N := some 74) (v := ?_) (a' := ?_) (bl 54 511) rfl rfl (take_ofW HT_.out HW_.out (by kernel_rfl)) (fun _ _ _ h => h) (Or.inl ⟨by rfl, ?_⟩) hHeld ?_ ?_
       rotate_left
       ·rintro w' ⟨s0, s1, s2, s3, s4, s5, s6, s7⟩
        go_simp
        with_reducible rfl
       rotate_left
       ·simp only [Act.put, sA, sZ, sS, i64_w, i32_w]
        rfl
       refine take_ (i := 9) (N := some 79) (v := ?_) (a' := ?_) (bl 54 1023) rfl rfl (take_ofW HT_.out HW_.out (by kernel_rfl)) (fun _ _ _ h => h) (Or.inl ⟨by rfl, ?_⟩) hHeld ?_ ?_
       rotate_left
       ·rintro w' ⟨s0, s1, s2, s3, s4, s5, s6, s7⟩
        go_simp
        with_reducible rfl
       rotate_left
       ·simp only [Act.put, sA, sZ, sS, i64_w, i32_w]
        rfl
       refine pure_ (i := 10) (N := some 80) (v := ?_) (a' := ?_) (bl 54 2047) rfl rfl (any_of HT_.out (by kernel_rfl)) (fun _ _ _ h => h) (Or.inl ⟨by rfl, ?_⟩) ?_ ?_
       rotate_left
       ·intro w'
        go_simp
        with_reducible rfl
       rotate_left
       ·simp only [Act.put, sA, sZ, sS, i64_w, i32_w]
        rfl
       refine pure_ (i := 11) (N := some 81) (v := ?_) (a' := ?_) (bl 54 4095) rfl rfl (any_of HT_.out (by kernel_rfl)) (fun _ _ _ h => h) (Or.inl ⟨by rfl, ?_⟩) ?_ ?_
       rotate_left
       ·intro w'
        go_simp
        with_reducible rfl
       rotate_left
       ·simp only [Act.put, sA, sZ, sS, i64_w, i32_w]
        rfl
       refine pure_ (i := 12) (N := some 82) (v := ?_) (a' := ?_) (bl 54 8191) rfl rfl (any_of HT_.out (by kernel_rfl)) (fun _ _ _ h => h) (Or.inl ⟨by rfl, ?_⟩) ?_ ?_
       rotate_left
       ·intro w'
        go_simp
        with_reducible rfl
       rotate_left
       ·simp only [Act.put, sA, sZ, sS, i64_w, i32_w]
        rfl
       refine pure_ (i := 13) (N := some 83) (v := ?_) (a' := ?_) (bl 54 16383) rfl rfl (any_of HT_.out (by kernel_rfl)) (fun _ _ _ h => h) (Or.inl ⟨by rfl, ?_⟩) ?_ ?_
       rotate_left
       ·intro w'
        go_simp
        with_reducible rfl
       rotate_left
       ·simp only [Act.put, sA, sZ, sS, i64_w, i32_w]
        rfl
       refine pure_ (i := 14) (N := some 84) (v := ?_) (a' := ?_) (bl 54 32767) rfl rfl (any_of HT_.out (by kernel_rfl)) (fun _ _ _ h => h) (Or.inl ⟨by rfl, ?_⟩) ?_ ?_
       rotate_left
       ·intro w'
        go_simp
        with_reducible rfl
       rotate_left
       ·simp only [Act.put, sA, sZ, sS, i64_w, i32_w]
        rfl
       refine pure_ (i := 15) (N := some 85) (v := ?_) (a' := ?_) (bl 54 65535) rfl rfl (any_of HT_.out (by kernel_rfl)) (fun _ _ _ h => h) (Or.inl ⟨by rfl, ?_⟩) ?_ ?_
       rotate_left
       ·intro w'
        go_simp
        with_reducible rfl
       rotate_left
       ·simp only [Act.put, sA, sZ, sS, i64_w, i32_w]
        rfl
       refine pure_ (i := 17) (N := some 87) (v := ?_) (a' := ?_) (bl 54 196607) rfl rfl (any_of HT_.out (by kernel_rfl)) (fun _ _ _ h => h) (Or.inl ⟨by rfl, ?_⟩) ?_ ?_
       rotate_left
       ·intro w'
        go_simp
        with_reducible rfl
       rotate_left
       ·simp only [Act.put, sA, sZ, sS, i64_w, i32_w]
        rfl
       refine pure_ (i := 18) (N := some 88) (v := ?_) (a' := ?_) (bl 54 458751) rfl rfl (any_of HT_.out (by kernel_rfl)) (fun _ _ _ h => h) (Or.inl ⟨by rfl, ?_⟩) ?_ ?_
       rotate_left
       ·intro w'
        go_simp
        with_reducible rfl
       rotate_left
       ·simp only [Act.put, sA, sZ, sS, i64_w, i32_w]
        rfl
       refine pure_ (i := 19) (N := some 89) (v := ?_) (a' := ?_) (bl 54 983039) rfl rfl (any_of HT_.out (by kernel_rfl)) (fun _ _ _ h => h) (Or.inl ⟨by rfl, ?_⟩) ?_ ?_
       rotate_left
       ·intro w'
        go_simp
        with_reducible rfl
       rotate_left
       ·simp only [Act.put, sA, sZ, sS, i64_w, i32_w]
        rfl
       refine pure_ (i := 20) (N := some 90) (v := ?_) (a' := ?_) (bl 54 2031615) rfl rfl (any_of HT_.out (by kernel_rfl)) (fun _ _ _ h => h) (Or.inl ⟨by rfl, ?_⟩) ?_ ?_
       rotate_left
       ·intro w'
        go_simp
        with_reducible rfl
       rotate_left
       ·simp only [Act.put, sA, sZ, sS, i64_w, i32_w]
        rfl
       refine take_ (i := 16) (N := some 86) (v := ?_) (a' := ?_) (bl 54 2097151) rfl rfl (take_ofW HT_.out HW_.out (by kernel_rfl)) (fun _ _ _ h => h) (Or.inl ⟨by rfl, ?_⟩) hHeld ?_ ?_
       rotate_left
       ·rintro w' ⟨s0, s1, s2, s3, s4, s5, s6, s7⟩
        go_simp
        with_reducible rfl
       rotate_left
       ·simp only [Act.put, sA, sZ, sS, i64_w, i32_w]
        rfl
       refine take_ (i := 21) (N := some 91) (v := ?_) (a' := ?_) (bl 54 4194303) rfl rfl (take_ofW HT_.out HW_.out (by kernel_rfl)) (fun _ _ _ h => h) (Or.inl ⟨by rfl, ?_⟩) hHeld ?_ ?_
       rotate_left
       ·rintro w' ⟨s0, s1, s2, s3, s4, s5, s6, s7⟩
        go_simp
        with_reducible rfl
       rotate_left
       ·simp only [Act.put, sA, sZ, sS, i64_w, i32_w]
        rfl
       refine pure_ (i := 22) (N := some 92) (v := ?_) (a' := ?_) (bl 54 8388607) rfl rfl (any_of HT_.out (by kernel_rfl)) (fun _ _ _ h => h) (Or.inl ⟨by rfl, ?_⟩) ?_ ?_
       rotate_left
       ·intro w'
        go_simp
        with_reducible rfl
       rotate_left
       ·simp only [Act.put, sA, sZ, sS, i64_w, i32_w]
        rfl
       refine pure_ (i := 23) (N := some 93) (v := ?_) (a' := ?_) (bl 54 16777215) rfl rfl (any_of HT_.out (by kernel_rfl)) (fun _ _ _ h => h) (Or.inl ⟨by rfl, ?_⟩) ?_ ?_
       rotate_left
       ·intro w'
        go_simp
        with_reducible rfl
       rotate_left
       ·simp only [Act.put, sA, sZ, sS, i64_w, i32_w]
        rfl
       refine pure_ (i := 24) (N := some 94) (v := ?_) (a' := ?_) (bl 54 33554431) rfl rfl (any_of HT_.out (by kernel_rfl)) (fun _ _ _ h => h) (Or.inl ⟨by rfl, ?_⟩) ?_ ?_
       rotate_left
       ·intro w'
        go_simp
        with_reducible rfl
       rotate_left
       ·simp only [Act.put, sA, sZ, sS, i64_w, i32_w]
        rfl
       refine pure_ (i := 25) (N := some 95) (v := undef) (a' := ?_) (bl 54 67108863) rfl rfl (any_of HT_.out (by kernel_rfl)) (fun _ _ _ h => h) (Or.inr ⟨by rfl, rfl⟩) ?_ ?_
       rotate_left
       ·simp only [Act.put, sA, sZ, sS, i64_w, i32_w]
        rfl
       refine pure_ (i := 26) (N := some 96) (v := undef) (a' := ?_) (bl 54 134217727) rfl rfl (any_of HT_.out (by kernel_rfl)) (fun _ _ _ h => h) (Or.inr ⟨by rfl, rfl⟩) ?_ ?_
       rotate_left
       ·simp only [Act.put, sA, sZ, sS, i64_w, i32_w]
        rfl
       refine pure_ (i := 27) (N := some 97) (v := undef) (a' := ?_) (bl 54 268435455) rfl rfl (any_of HT_.out (by kernel_rfl)) (fun _ _ _ h => h) (Or.inr ⟨by rfl, rfl⟩) ?_ ?_
       rotate_left
       ·simp only [Act.put, sA, sZ, sS, i64_w, i32_w]
        rfl
       refine pure_ (i := 28) (N := some 98) (v := undef) (a' := ?_) (bl 54 536870911) rfl rfl (any_of HT_.out (by kernel_rfl)) (fun _ _ _ h => h) (Or.inr ⟨by rfl, rfl⟩) ?_ ?_
       rotate_left
       ·simp only [Act.put, sA, sZ, sS, i64_w, i32_w]
        rfl
       refine pure_ (i := 29) (N := some 99) (v := undef) (a' := ?_) (bl 54 1073741823) rfl rfl (any_of HT_.out (by kernel_rfl)) (fun _ _ _ h => h) (Or.inr ⟨by rfl, rfl⟩) ?_ ?_
       rotate_left
       ·simp only [Act.put, sA, sZ, sS, i64_w, i32_w]
        rfl
       refine pure_ (i := 30) (N := some 100) (v := undef) (a' := ?_) (bl 54 2147483647) rfl rfl (any_of HT_.out (by kernel_rfl)) (fun _ _ _ h => h) (Or.inr ⟨by rfl, rfl⟩) ?_ ?_
       rotate_left
       ·simp only [Act.put, sA, sZ, sS, i64_w, i32_w]
        rfl
       refine pure_ (i := 31) (N := some 101) (v := undef) (a' := ?_) (bl 54 4294967295) rfl rfl (any_of HT_.out (by kernel_rfl)) (fun _ _ _ h => h) (Or.inr ⟨by rfl, rfl⟩) ?_ ?_
       rotate_left
       ·simp only [Act.put, sA, sZ, sS, i64_w, i32_w]
        rfl
       refine pure_ (i := 32) (N := some 102) (v := undef) (a' := ?_) (bl 54 8589934591) rfl rfl (any_of HT_.out (by kernel_rfl)) (fun _ _ _ h => h) (Or.inr ⟨by rfl, rfl⟩) ?_ ?_
       rotate_left
       ·simp only [Act.put, sA, sZ, sS, i64_w, i32_w]
        rfl
       refine pure_ (i := 33) (N := some 103) (v := undef) (a' := ?_) (bl 54 17179869183) rfl rfl (any_of HT_.out (by kernel_rfl)) (fun _ _ _ h => h) (Or.inr ⟨by rfl, rfl⟩) ?_ ?_
       rotate_left
       ·simp only [Act.put, sA, sZ, sS, i64_w, i32_w]
        rfl
       refine pure_ (i := 34) (N := some 104) (v := undef) (a' := ?_) (bl 54 34359738367) rfl rfl (any_of HT_.out (by kernel_rfl)) (fun _ _ _ h => h) (Or.inr ⟨by rfl, rfl⟩) ?_ ?_
       rotate_left
       ·simp only [Act.put, sA, sZ, sS, i64_w, i32_w]
        rfl
       refine pure_ (i := 35) (N := some 105) (v := undef) (a' := ?_) (bl 54 68719476735) rfl rfl (any_of HT_.out (by kernel_rfl)) (fun _ _ _ h => h) (Or.inr ⟨by rfl, rfl⟩) ?_ ?_
       rotate_left
       ·simp only [Act.put, sA, sZ, sS, i64_w, i32_w]
        rfl
       refine pure_ (i := 36) (N := some 106) (v := undef) (a' := ?_) (bl 54 137438953471) rfl rfl (any_of HT_.out (by kernel_rfl)) (fun _ _ _ h => h) (Or.inr ⟨by rfl, rfl⟩) ?_ ?_
       rotate_left
       ·simp only [Act.put, sA, sZ, sS, i64_w, i32_w]
        rfl
       refine pure_ (i := 37) (N := some 107) (v := undef) (a' := ?_) (bl 54 274877906943) rfl rfl (any_of HT_.out (by kernel_rfl)) (fun _ _ _ h => h) (Or.inr ⟨by rfl, rfl⟩) ?_ ?_
       rotate_left
       ·simp only [Act.put, sA, sZ, sS, i64_w, i32_w]
        rfl
       refine pure_ (i := 38) (N := some 108) (v := ?_) (a' := ?_) (bl 54 549755813887) rfl rfl (any_of HT_.out (by kernel_rfl)) (fun _ _ _ h => h) (Or.inl ⟨by rfl, ?_⟩) ?_ ?_
       rotate_left
       ·intro w'
        go_simp
        with_reducible rfl
       rotate_left
       ·simp only [Act.put, sA, sZ, sS, i64_w, i32_w]
        rfl
       refine pure_ (i := 39) (N := some 109) (v := ?_) (a' := ?_) (bl 54 1099511627775) rfl rfl (any_of HT_.out (by kernel_rfl)) (fun _ _ _ h => h) (Or.inl ⟨by rfl, ?_⟩) ?_ ?_
       rotate_left
       ·intro w'
        go_simp
        with_reducible rfl
       rotate_left
       ·simp only [Act.put, sA, sZ, sS, i64_w, i32_w]
        rfl
       refine pure_ (i := 40) (N := some 110) (v := undef) (a' := ?_) (bl 54 2199023255551) rfl rfl (any_of HT_.out (by kernel_rfl)) (fun _ _ _ h => h) (Or.inr ⟨by rfl, rfl⟩) ?_ ?_
       rotate_left
       ·simp only [Act.put, sA, sZ, sS, i64_w, i32_w]
        rfl
       refine pure_ (i := 41) (N := some 111) (v := undef) (a' := ?_) (bl 54 4398046511103) rfl rfl (any_of HT_.out (by kernel_rfl)) (fun _ _ _ h => h) (Or.inr ⟨by rfl, rfl⟩) ?_ ?_
       rotate_left
       ·simp only [Act.put, sA, sZ, sS, i64_w, i32_w]
        rfl
       refine pure_ (i := 42) (N := some 112) (v := undef) (a' := ?_) (bl 54 8796093022207) rfl rfl (any_of HT_.out (by kernel_rfl)) (fun _ _ _ h => h) (Or.inr ⟨by rfl, rfl⟩) ?_ ?_
       rotate_left
       ·simp only [Act.put, sA, sZ, sS, i64_w, i32_w]
        rfl
       refine pure_ (i := 43) (N := some 113) (v := undef) (a' := ?_) (bl 54 17592186044415) rfl rfl (any_of HT_.out (by kernel_rfl)) (fun _ _ _ h => h) (Or.inr ⟨by rfl, rfl⟩) ?_ ?_
       rotate_left
       ·simp only [Act.put, sA, sZ, sS, i64_w, i32_w]
        rfl
       refine pure_ (i := 44) (N := some 114) (v := undef) (a' := ?_) (bl 54 35184372088831) rfl rfl (any_of HT_.out (by kernel_rfl)) (fun _ _ _ h => h) (Or.inr ⟨by rfl, rfl⟩) ?_ ?_
       rotate_left
       ·simp only [Act.put, sA, sZ, sS, i64_w, i32_w]
        rfl
       refine pure_ (i := 45) (N := some 115) (v := undef) (a' := ?_) (bl 54 70368744177663) rfl rfl (any_of HT_.out (by kernel_rfl)) (fun _ _ _ h => h) (Or.inr ⟨by rfl, rfl⟩) ?_ ?_
       rotate_left
       ·simp only [Act.put, sA, sZ, sS, i64_w, i32_w]
        rfl
       refine pure_ (i := 46) (N := some 116) (v := undef) (a' := ?_) (bl 54 140737488355327) rfl rfl (any_of HT_.out (by kernel_rfl)) (fun _ _ _ h => h) (Or.inr ⟨by rfl, rfl⟩) ?_ ?_
       rotate_left
       ·simp only [Act.put, sA, sZ, sS, i64_w, i32_w]
        rfl
       refine pure_ (i := 47) (N := some 117) (v := undef) (a' := ?_) (bl 54 281474976710655) rfl rfl (any_of HT_.out (by kernel_rfl)) (fun _ _ _ h => h) (Or.inr ⟨by rfl, rfl⟩) ?_ ?_
       rotate_left
       ·simp only [Act.put, sA, sZ, sS, i64_w, i32_w]
        rfl
       refine pure_ (i := 48) (N := some 118) (v := undef) (a' := ?_) (bl 54 562949953421311) rfl rfl (any_of HT_.out (by kernel_rfl)) (fun _ _ _ h => h) (Or.inr ⟨by rfl, rfl⟩) ?_ ?_
       rotate_left
       ·simp only [Act.put, sA, sZ, sS, i64_w, i32_w]
        rfl
       refine pure_ (i := 49) (N := some 119) (v := undef) (a' := ?_) (bl 54 1125899906842623) rfl rfl (any_of HT_.out (by kernel_rfl)) (fun _ _ _ h => h) (Or.inr ⟨by rfl, rfl⟩) ?_ ?_
       rotate_left
       ·simp only [Act.put, sA, sZ, sS, i64_w, i32_w]
        rfl
       refine pure_ (i := 50) (N := some 120) (v := undef) (a' := ?_) (bl 54 2251799813685247) rfl rfl (any_of HT_.out (by kernel_rfl)) (fun _ _ _ h => h) (Or.inr ⟨by rfl, rfl⟩) ?_ ?_
       rotate_left
       ·simp only [Act.put, sA, sZ, sS, i64_w, i32_w]
        rfl
       refine pure_ (i := 51) (N := some 121) (v := undef) (a' := ?_) (bl 54 4503599627370495) rfl rfl (any_of HT_.out (by kernel_rfl)) (fun _ _ _ h => h) (Or.inr ⟨by rfl, rfl⟩) ?_ ?_
       rotate_left
       ·simp only [Act.put, sA, sZ, sS, i64_w, i32_w]
        rfl
       refine pure_ (i := 52) (N := some 122) (v := undef) (a' := ?_) (bl 54 9007199254740991) rfl rfl (any_of HT_.out (by kernel_rfl)) (fun _ _ _ h => h) (Or.inr ⟨by rfl, rfl⟩) ?_ ?_
       rotate_left
       ·simp only [Act.put, sA, sZ, sS, i64_w, i32_w]
        rfl
       refine pure_ (i := 53) (N := some 123) (v := ?_) (a' := ?_) (bl 54 18014398509481983) rfl rfl (any_of HT_.out (by kernel_rfl)) (fun _ _ _ h => h) (Or.inl ⟨by rfl, ?_⟩) ?_ ?_
       rotate_left
       ·intro w'
        go_simp
        with_reducible rfl
       rotate_left
       ·simp only [Act.put, sA, sZ, sS, i64_w, i32_w]
        rfl
       refine done_ (done_of HT_.out (by kernel_rfl)) ?_
       try go_wp2
       go_meet
       case rel => exact ⟨_, (true), (by first | rfl | (simp; done) | (simp [*]; done)), H', ⟨by have := HJ11.out; have := HK2.out; first | omega | exact Nat.le_refl _⟩, ⟨by (with_reducible repeat (first | apply Kd.S_alloc | apply Kd.S_drewN | apply Kd.S_drew)); exact HO_6.out⟩, ⟨by (with_reducible repeat (first | apply Kd.S_alloc | apply Kd.S_drewN | apply Kd.S_drew)); exact HO_7.out⟩, ⟨by (with_reducible repeat (first | apply Kd.S_alloc | apply Kd.S_drewN | apply Kd.S_drew)); exact HO_8.out⟩, ⟨by (with_reducible repeat (first | refine bN ?_ _ | refine bD ?_ | refine bA ?_ _)); exact BK301.out⟩, ⟨by repeat (first | (with_reducible first | exact HB.out | apply lA | apply lN | apply lD | refine lS ?_ GE301.out) | exact HB.out)⟩⟩
      rw [if_pos c46] at H
      have c46b0 : (((rd_T52 t304 x9_2).place) == ((rd_T52 t322 x9_2).place)) = true := beq_iff_eq.mpr c46
      have c46b1 : (((rd_T52 t304 x9_2).place) != ((rd_T52 t322 x9_2).place)) = false := bne_eq_false_iff_eq.mpr c46
      clear c46
      as_aux_lemma =>
      by_cases c47 : (((rd_T52 t304 x9_2).vars).length : Int) = (((rd_T52 t307 x9_2).vars).length : Int)
      rotate_left
      ·rw [if_neg c47] at H
       have c47b0 : ((((rd_T52 t304 x9_2).vars).length : Int) == (((rd_T52 t307 x9_2).vars).length : Int)) = false := beq_eq_false_iff_ne.mpr c47
       have c47b1 : ((((rd_T52 t304 x9_2).vars).length : Int) != (((rd_T52 t307 x9_2).vars).length : Int)) = true := bne_iff_ne.mpr c47
       have c47b2 : (((rd_T52 t304 x9_2).vars).length == ((rd_T52 t307 x9_2).vars).length) = false := by first | simpa using c47 | (simp at c47 ⊢; omega)
       have H' := am H
       clear H
       try go_wp2
       replace HO_6 := am (Kd.S_drew HO_6.out)
       replace HO_7 := am (Kd.S_drew HO_7.out)
       replace HO_8 := am (Kd.S_drew HO_8.out)
       replace BK301 := am (blk_drew BK301.out)
       replace HB := am (below_drew1 HB.out)
       have p325 : 0 ≤ (x9_2 : Int) := of_decide_eq_true (by first | (with_reducible assumption) | assumption)
       have q325 : x9_2 < (t304.length : Int) := of_decide_eq_true (by first | (with_reducible assumption) | assumption)
       obtain ⟨ad325, A325_1, c325_1, e325, hx325_0, hx325_1, hl325_1, hi325_1⟩ := at_T52 (Kd.S_reads' HO_6.out).2.2 x9_2 p325 q325
       cases e325
       obtain ⟨ce325, hce325, hMe325, hcc325⟩ := Kd.S_get HO_6.out z52 x9_2 p325 (by first | exact q325 | exact of_decide_eq_true (by first | (with_reducible assumption) | assumption) | (have e_ := (Kd.S_reads' HO_6.out).1; omega))
       obtain ⟨ve325_1, rfl, ge325_1⟩ := k52_openM hMe325
       have hv325_1 := hcc325 1 _ rfl
       rw [add_field _ _ 1 (by omega)] at hv325_1
       replace hv325_1 := Option.some.inj (hv325_1.symm.trans hx325_1)
       rw [hv325_1] at ge325_1
       have HL325_1 := am (show Kd.R k54 54 _ _ _ _ ((rd_T52 t304 x9_2).vars) from ge325_1)
       clear hv325_1 ge325_1
       clear hcc325 hce325
       have HR325_1 := am hi325_1
       have HC325_1 := am hl325_1
       clear hi325_1 hl325_1
       replace p325 := eq_true p325
       replace q325 := eq_true q325
       obtain ⟨Ao52, co52, eo52⟩ := Kd.S_slice HO_7.out
       (first | subst eo52 | (injection eo52 with f1_ f2_ f3_; have f4_ := f1_.symm; have f5_ := f3_.symm; clear f1_ f2_ f3_; subst f4_; subst f5_))
       have p326 : 0 ≤ (x9_2 : Int) := of_decide_eq_true (by first | (with_reducible assumption) | assumption)
       have q326 : x9_2 < (t307.length : Int) := of_decide_eq_true (by first | (with_reducible assumption) | assumption)
       obtain ⟨ad326, A326_1, c326_1, e326, hx326_0, hx326_1, hl326_1, hi326_1⟩ := at_T52 (Kd.S_reads' HO_7.out).2.2 x9_2 p326 q326
       cases e326
       obtain ⟨ce326, hce326, hMe326, hcc326⟩ := Kd.S_get HO_7.out z52 x9_2 p326 (by first | exact q326 | exact of_decide_eq_true (by first | (with_reducible assumption) | assumption) | (have e_ := (Kd.S_reads' HO_7.out).1; omega))
       obtain ⟨ve326_1, rfl, ge326_1⟩ := k52_openM hMe326
       have hv326_1 := hcc326 1 _ rfl
       rw [add_field _ _ 1 (by omega)] at hv326_1
       replace hv326_1 := Option.some.inj (hv326_1.symm.trans hx326_1)
       rw [hv326_1] at ge326_1
       have HL326_1 := am (show Kd.R k54 54 _ _ _ _ ((rd_T52 t307 x9_2).vars) from ge326_1)
       clear hv326_1 ge326_1
       clear hcc326 hce326
       have HR326_1 := am hi326_1
       have HC326_1 := am hl326_1
       clear hi326_1 hl326_1
       replace p326 := eq_true p326
       replace q326 := eq_true q326
       have p327 : 0 ≤ (x9_2 : Int) := of_decide_eq_true (by first | (with_reducible assumption) | assumption)
       have q327 : x9_2 < (t304.length : Int) := of_decide_eq_true (by first | (with_reducible assumption) | assumption)
       obtain ⟨ad327, A327_1, c327_1, e327, hx327_0, hx327_1, hl327_1, hi327_1⟩ := at_T52 (Kd.S_reads' HO_6.out).2.2 x9_2 p327 q327
       obtain rfl : ad325 = ad327 := (by injection e327)
       obtain ⟨ce327, hce327, hMe327, hcc327⟩ := Kd.S_get HO_6.out z52 x9_2 p327 (by first | exact q327 | exact of_decide_eq_true (by first | (with_reducible assumption) | assumption) | (have e_ := (Kd.S_reads' HO_6.out).1; omega))
       obtain ⟨ve327_1, rfl, ge327_1⟩ := k52_openM hMe327
       have hv327_1 := hcc327 1 _ rfl
       rw [add_field _ _ 1 (by omega)] at hv327_1
       replace hv327_1 := Option.some.inj (hv327_1.symm.trans hx327_1)
       rw [hv327_1] at ge327_1
       have HL327_1 := am (show Kd.R k54 54 _ _ _ _ ((rd_T52 t304 x9_2).vars) from ge327_1)
       clear hv327_1 ge327_1
       clear hcc327 hce327
       have HR327_1 := am hi327_1
       have HC327_1 := am hl327_1
       clear hi327_1 hl327_1
       replace p327 := eq_true p327
       replace q327 := eq_true q327
       have ea_ := Option.some.inj (hx325_1.symm.trans hx327_1)
       injection ea_ with ea_ en_ ec_
       subst ea_
       subst ec_
       clear en_
       obtain ⟨Ao53, co53, eo53⟩ := Kd.S_slice HO_8.out
       (first | subst eo53 | (injection eo53 with f1_ f2_ f3_; have f4_ := f1_.symm; have f5_ := f3_.symm; clear f1_ f2_ f3_; subst f4_; subst f5_))
       have p328 : 0 ≤ (x9_2 : Int) := of_decide_eq_true (by first | (with_reducible assumption) | assumption)
       have q328 : x9_2 < (t322.length : Int) := of_decide_eq_true (by first | (with_reducible assumption) | assumption)
       obtain ⟨ad328, A328_1, c328_1, e328, hx328_0, hx328_1, hl328_1, hi328_1⟩ := at_T52 (Kd.S_reads' HO_8.out).2.2 x9_2 p328 q328
       cases e328
       obtain ⟨ce328, hce328, hMe328, hcc328⟩ := Kd.S_get HO_8.out z52 x9_2 p328 (by first | exact q328 | exact of_decide_eq_true (by first | (with_reducible assumption) | assumption) | (have e_ := (Kd.S_reads' HO_8.out).1; omega))
       obtain ⟨ve328_1, rfl, ge328_1⟩ := k52_openM hMe328
       have hv328_1 := hcc328 1 _ rfl
       rw [add_field _ _ 1 (by omega)] at hv328_1
       replace hv328_1 := Option.some.inj (hv328_1.symm.trans hx328_1)
       rw [hv328_1] at ge328_1
       have HL328_1 := am (show Kd.R k54 54 _ _ _ _ ((rd_T52 t322 x9_2).vars) from ge328_1)
       clear hv328_1 ge328_1
       clear hcc328 hce328
       have HR328_1 := am hi328_1
       have HC328_1 := am hl328_1
       clear hi328_1 hl328_1
       replace p328 := eq_true p328
       replace q328 := eq_true q328
       have p329 : 0 ≤ (x9_2 : Int) := of_decide_eq_true (by first | (with_reducible assumption) | assumption)
       have q329 : x9_2 < (t304.length : Int) := of_decide_eq_true (by first | (with_reducible assumption) | assumption)
       obtain ⟨ad329, A329_1, c329_1, e329, hx329_0, hx329_1, hl329_1, hi329_1⟩ := at_T52 (Kd.S_reads' HO_6.out).2.2 x9_2 p329 q329
       obtain rfl : ad325 = ad329 := (by injection e329)
       obtain ⟨ce329, hce329, hMe329, hcc329⟩ := Kd.S_get HO_6.out z52 x9_2 p329 (by first | exact q329 | exact of_decide_eq_true (by first | (with_reducible assumption) | assumption) | (have e_ := (Kd.S_reads' HO_6.out).1; omega))
       obtain ⟨ve329_1, rfl, ge329_1⟩ := k52_openM hMe329
       have hv329_1 := hcc329 1 _ rfl
       rw [add_field _ _ 1 (by omega)] at hv329_1
       replace hv329_1 := Option.some.inj (hv329_1.symm.trans hx329_1)
       rw [hv329_1] at ge329_1
       have HL329_1 := am (show Kd.R k54 54 _ _ _ _ ((rd_T52 t304 x9_2).vars) from ge329_1)
       clear hv329_1 ge329_1
       clear hcc329 hce329
       have HR329_1 := am hi329_1
       have HC329_1 := am hl329_1
       clear hi329_1 hl329_1
       replace p329 := eq_true p329
       replace q329 := eq_true q329
       have ea_ := Option.some.inj (hx325_1.symm.trans hx329_1)
       injection ea_ with ea_ en_ ec_
       subst ea_
       subst ec_
       clear en_
       have p330 : 0 ≤ (x9_2 : Int) := of_decide_eq_true (by first | (with_reducible assumption) | assumption)
       have q330 : x9_2 < (t307.length : Int) := of_decide_eq_true (by first | (with_reducible assumption) | assumption)
       obtain ⟨ad330, A330_1, c330_1, e330, hx330_0, hx330_1, hl330_1, hi330_1⟩ := at_T52 (Kd.S_reads' HO_7.out).2.2 x9_2 p330 q330
       obtain rfl : ad326 = ad330 := (by injection e330)
       obtain ⟨ce330, hce330, hMe330, hcc330⟩ := Kd.S_get HO_7.out z52 x9_2 p330 (by first | exact q330 | exact of_decide_eq_true (by first | (with_reducible assumption) | assumption) | (have e_ := (Kd.S_reads' HO_7.out).1; omega))
       obtain ⟨ve330_1, rfl, ge330_1⟩ := k52_openM hMe330
       have hv330_1 := hcc330 1 _ rfl
       rw [add_field _ _ 1 (by omega)] at hv330_1
       replace hv330_1 := Option.some.inj (hv330_1.symm.trans hx330_1)
       rw [hv330_1] at ge330_1
       have HL330_1 := am (show Kd.R k54 54 _ _ _ _ ((rd_T52 t307 x9_2).vars) from ge330_1)
       clear hv330_1 ge330_1
       clear hcc330 hce330
       have HR330_1 := am hi330_1
       have HC330_1 := am hl330_1
       clear hi330_1 hl330_1
       replace p330 := eq_true p330
       replace q330 := eq_true q330
       have ea_ := Option.some.inj (hx326_1.symm.trans hx330_1)
       injection ea_ with ea_ en_ ec_
       subst ea_
       subst ec_
       clear en_
       refine start_ (n := 54) (S := fun w' => w'.cell? (ad325.add ((x9_2).toNat * 2)) = some (.int .i64 ((rd_T52 t304 x9_2).place)) ∧ w'.cell? ⟨(ad325.add ((x9_2).toNat * 2)).block, (ad325.add ((x9_2).toNat * 2)).off + 1, none⟩ = some (.slice A325_1 ((rd_T52 t304 x9_2).vars).length c325_1) ∧ w'.cell? (ad326.add ((x9_2).toNat * 2)) = some (.int .i64 ((rd_T52 t307 x9_2).place)) ∧ w'.cell? ⟨(ad326.add ((x9_2).toNat * 2)).block, (ad326.add ((x9_2).toNat * 2)).off + 1, none⟩ = some (.slice A326_1 ((rd_T52 t307 x9_2).vars).length c326_1) ∧ w'.cell? (ad325.add ((x9_2).toNat * 2)) = some (.int .i64 ((rd_T52 t304 x9_2).place)) ∧ w'.cell? ⟨(ad325.add ((x9_2).toNat * 2)).block, (ad325.add ((x9_2).toNat * 2)).off + 1, none⟩ = some (.slice A325_1 ((rd_T52 t304 x9_2).vars).length c325_1) ∧ w'.cell? (ad328.add ((x9_2).toNat * 2)) = some (.int .i64 ((rd_T52 t322 x9_2).place)) ∧ w'.cell? ⟨(ad328.add ((x9_2).toNat * 2)).block, (ad328.add ((x9_2).toNat * 2)).off + 1, none⟩ = some (.slice A328_1 ((rd_T52 t322 x9_2).vars).length c328_1) ∧ w'.cell? (ad325.add ((x9_2).toNat * 2)) = some (.int .i64 ((rd_T52 t304 x9_2).place)) ∧ w'.cell? ⟨(ad325.add ((x9_2).toNat * 2)).block, (ad325.add ((x9_2).toNat * 2)).off + 1, none⟩ = some (.slice A325_1 ((rd_T52 t304 x9_2).vars).length c325_1) ∧ w'.cell? (ad326.add ((x9_2).toNat * 2)) = some (.int .i64 ((rd_T52 t307 x9_2).place)) ∧ w'.cell? ⟨(ad326.add ((x9_2).toNat * 2)).block, (ad326.add ((x9_2).toNat * 2)).off + 1, none⟩ = some (.slice A326_1 ((rd_T52 t307 x9_2).vars).length c326_1)) (ds := []) (bl 54 0) (by kernel_rfl) rfl rfl ⟨hx325_0, hx325_1, hx326_0, hx326_1, hx327_0, hx327_1, hx328_0, hx328_1, hx329_0, hx329_1, hx330_0, hx330_1⟩ (fun hHeld => ?_); refine with_tabW lambrequinlaw22_InterpMore.tab12 lambrequinlaw22_InterpMore.bits12 (fun HT_ HW_ => ?_)
       generalize wr.drew = w51 at HO_6 HO_7 HO_8 BK301 HB HL325_1 HL326_1 HL327_1 HL328_1 HL329_1 HL330_1 HR325_1 HR326_1 HR327_1 HR328_1 HR329_1 HR330_1 hx325_0 hx325_1 hx326_0 hx326_1 hx327_0 hx327_1 hx328_0 hx328_1 hx329_0 hx329_1 hx330_0 hx330_1 hHeld ⊢
       refine pure_ (i := 0) (N := some 70) (v := ?_) (a' := ?_) (bl 54 1) rfl rfl (any_of HT_.out (by kernel_rfl)) (fun _ _ _ h => h) (Or.inl ⟨by rfl, ?_⟩) ?_ ?_
       rotate_left
       ·intro w'
        go_simp
        with_reducible rfl
       rotate_left
       ·simp only [Act.put, sA, sZ, sS, i64_w, i32_w]
        rfl
       refine pure_ (i := 1) (N := some 71) (v := ?_) (a' := ?_) (bl 54 3) rfl rfl (any_of HT_.out (by kernel_rfl)) (fun _ _ _ h => h) (Or.inl ⟨by rfl, ?_⟩) ?_ ?_
       rotate_left
       ·intro w'
        go_simp
        with_reducible rfl
       rotate_left
       ·simp only [Act.put, sA, sZ, sS, i64_w, i32_w]
        rfl
       refine pure_ (i := 2) (N := some 72) (v := ?_) (a' := ?_) (bl 54 7) rfl rfl (any_of HT_.out (by kernel_rfl)) (fun _ _ _ h => h) (Or.inl ⟨by rfl, ?_⟩) ?_ ?_
       rotate_left
       ·intro w'
        go_simp
        with_reducible rfl
       rotate_left
       ·simp only [Act.put, sA, sZ, sS, i64_w, i32_w]
        rfl
       refine pure_ (i := 3) (N := some 73) (v := ?_) (a' := ?_) (bl 54 15) rfl rfl (any_of HT_.out (by kernel_rfl)) (fun _ _ _ h => h) (Or.inl ⟨by rfl, ?_⟩) ?_ ?_
       rotate_left
       ·intro w'
        go_simp
        with_reducible rfl
       rotate_left
       ·simp only [Act.put, sA, sZ, sS, i64_w, i32_w]
        rfl
       refine pure_ (i := 5) (N := some 75) (v := ?_) (a' := ?_) (bl 54 47) rfl rfl (any_of HT_.out (by kernel_rfl)) (fun _ _ _ h => h) (Or.inl ⟨by rfl, ?_⟩) ?_ ?_
       rotate_left
       ·intro w'
        go_simp
        with_reducible rfl
       rotate_left
       ·simp only [Act.put, sA, sZ, sS, i64_w, i32_w]
        rfl
       refine pure_ (i := 6) (N := some 76) (v := ?_) (a' := ?_) (bl 54 111) rfl rfl (any_of HT_.out (by kernel_rfl)) (fun _ _ _ h => h) (Or.inl ⟨by rfl, ?_⟩) ?_ ?_
       rotate_left
       ·intro w'
        go_simp
        with_reducible rfl
       rotate_left
       ·simp only [Act.put, sA, sZ, sS, i64_w, i32_w]
        rfl
       refine pure_ (i := 7) (N := some 77) (v := ?_) (a' := ?_) (bl 54 239) rfl rfl (any_of HT_.out (by kernel_rfl)) (fun _ _ _ h => h) (Or.inl ⟨by rfl, ?_⟩) ?_ ?_
       rotate_left
       ·intro w'
        go_simp
        with_reducible rfl
       rotate_left
       ·simp only [Act.put, sA, sZ, sS, i64_w, i32_w]
        rfl
       refine pure_ (i := 8) (N := some 78) (v := ?_) (a' := ?_) (bl 54 495) rfl rfl (any_of HT_.out (by kernel_rfl)) (fun _ _ _ h => h) (Or.inl ⟨by rfl, ?_⟩) ?_ ?_
       rotate_left
       ·intro w'
        go_simp
        with_reducible rfl
       rotate_left
       ·simp only [Act.put, sA, sZ, sS, i64_w, i32_w]
        rfl
       refine take_ (i := 4) (N := some 74) (v := ?_) (a' := ?_) (bl 54 511) rfl rfl (take_ofW HT_.out HW_.out (by kernel_rfl)) (fun _ _ _ h => h) (Or.inl ⟨by rfl, ?_⟩) hHeld ?_ ?_
       rotate_left
       ·rintro w' ⟨s0, s1, s2, s3, s4, s5, s6, s7, s8, s9, s10, s11⟩
        go_simp
        with_reducible rfl
       rotate_left
       ·simp only [Act.put, sA, sZ, sS, i64_w, i32_w]
        rfl
       refine take_ (i := 9) (N := some 79) (v := ?_) (a' := ?_) (bl 54 1023) rfl rfl (take_ofW HT_.out HW_.out (by kernel_rfl)) (fun _ _ _ h => h) (Or.inl ⟨by rfl, ?_⟩) hHeld ?_ ?_
       rotate_left
       ·rintro w' ⟨s0, s1, s2, s3, s4, s5, s6, s7, s8, s9, s10, s11⟩
        go_simp
        with_reducible rfl
       rotate_left
       ·simp only [Act.put, sA, sZ, sS, i64_w, i32_w]
        rfl
       refine pure_ (i := 10) (N := some 80) (v := ?_) (a' := ?_) (bl 54 2047) rfl rfl (any_of HT_.out (by kernel_rfl)) (fun _ _ _ h => h) (Or.inl ⟨by rfl, ?_⟩) ?_ ?_
       rotate_left
       ·intro w'
        go_simp
        with_reducible rfl
       rotate_left
       ·simp only [Act.put, sA, sZ, sS, i64_w, i32_w]
        rfl
       refine pure_ (i := 11) (N := some 81) (v := ?_) (a' := ?_) (bl 54 4095) rfl rfl (any_of HT_.out (by kernel_rfl)) (fun _ _ _ h => h) (Or.inl ⟨by rfl, ?_⟩) ?_ ?_
       rotate_left
       ·intro w'
        go_simp
        with_reducible rfl
       rotate_left
       ·simp only [Act.put, sA, sZ, sS, i64_w, i32_w]
        rfl
       refine pure_ (i := 12) (N := some 82) (v := ?_) (a' := ?_) (bl 54 8191) rfl rfl (any_of HT_.out (by kernel_rfl)) (fun _ _ _ h => h) (Or.inl ⟨by rfl, ?_⟩) ?_ ?_
       rotate_left
       ·intro w'
        go_simp
        with_reducible rfl
       rotate_left
       ·simp only [Act.put, sA, sZ, sS, i64_w, i32_w]
        rfl
       refine pure_ (i := 13) (N := some 83) (v := ?_) (a' := ?_) (bl 54 16383) rfl rfl (any_of HT_.out (by kernel_rfl)) (fun _ _ _ h => h) (Or.inl ⟨by rfl, ?_⟩) ?_ ?_
       rotate_left
       ·intro w'
        go_simp
        with_reducible rfl
       rotate_left
       ·simp only [Act.put, sA, sZ, sS, i64_w, i32_w]
        rfl
       refine pure_ (i := 14) (N := some 84) (v := ?_) (a' := ?_) (bl 54 32767) rfl rfl (any_of HT_.out (by kernel_rfl)) (fun _ _ _ h => h) (Or.inl ⟨by rfl, ?_⟩) ?_ ?_
       rotate_left
       ·intro w'
        go_simp
        with_reducible rfl
       rotate_left
       ·simp only [Act.put, sA, sZ, sS, i64_w, i32_w]
        rfl
       refine pure_ (i := 15) (N := some 85) (v := ?_) (a' := ?_) (bl 54 65535) rfl rfl (any_of HT_.out (by kernel_rfl)) (fun _ _ _ h => h) (Or.inl ⟨by rfl, ?_⟩) ?_ ?_
       rotate_left
       ·intro w'
        go_simp
        with_reducible rfl
       rotate_left
       ·simp only [Act.put, sA, sZ, sS, i64_w, i32_w]
        rfl
       refine pure_ (i := 17) (N := some 87) (v := ?_) (a' := ?_) (bl 54 196607) rfl rfl (any_of HT_.out (by kernel_rfl)) (fun _ _ _ h => h) (Or.inl ⟨by rfl, ?_⟩) ?_ ?_
       rotate_left
       ·intro w'
        go_simp
        with_reducible rfl
       rotate_left
       ·simp only [Act.put, sA, sZ, sS, i64_w, i32_w]
        rfl
       refine pure_ (i := 18) (N := some 88) (v := ?_) (a' := ?_) (bl 54 458751) rfl rfl (any_of HT_.out (by kernel_rfl)) (fun _ _ _ h => h) (Or.inl ⟨by rfl, ?_⟩) ?_ ?_
       rotate_left
       ·intro w'
        go_simp
        with_reducible rfl
       rotate_left
       ·simp only [Act.put, sA, sZ, sS, i64_w, i32_w]
        rfl
       refine pure_ (i := 19) (N := some 89) (v := ?_) (a' := ?_) (bl 54 983039) rfl rfl (any_of HT_.out (by kernel_rfl)) (fun _ _ _ h => h) (Or.inl ⟨by rfl, ?_⟩) ?_ ?_
       rotate_left
       ·intro w'
        go_simp
        with_reducible rfl
       rotate_left
       ·simp only [Act.put, sA, sZ, sS, i64_w, i32_w]
        rfl
       refine pure_ (i := 20) (N := some 90) (v := ?_) (a' := ?_) (bl 54 2031615) rfl rfl (any_of HT_.out (by kernel_rfl)) (fun _ _ _ h => h) (Or.inl ⟨by rfl, ?_⟩) ?_ ?_
       rotate_left
       ·intro w'
        go_simp
        with_reducible rfl
       rotate_left
       ·simp only [Act.put, sA, sZ, sS, i64_w, i32_w]
        rfl
       refine take_ (i := 16) (N := some 86) (v := ?_) (a' := ?_) (bl 54 2097151) rfl rfl (take_ofW HT_.out HW_.out (by kernel_rfl)) (fun _ _ _ h => h) (Or.inl ⟨by rfl, ?_⟩) hHeld ?_ ?_
       rotate_left
       ·rintro w' ⟨s0, s1, s2, s3, s4, s5, s6, s7, s8, s9, s10, s11⟩
        go_simp
        with_reducible rfl
       rotate_left
       ·simp only [Act.put, sA, sZ, sS, i64_w, i32_w]
        rfl
       refine take_ (i := 21) (N := some 91) (v := ?_) (a' := ?_) (bl 54 4194303) rfl rfl (take_ofW HT_.out HW_.out (by kernel_rfl)) (fun _ _ _ h => h) (Or.inl ⟨by rfl, ?_⟩) hHeld ?_ ?_
       rotate_left
       ·rintro w' ⟨s0, s1, s2, s3, s4, s5, s6, s7, s8, s9, s10, s11⟩
        go_simp
        with_reducible rfl
       rotate_left
       ·simp only [Act.put, sA, sZ, sS, i64_w, i32_w]
        rfl
       refine pure_ (i := 22) (N := some 92) (v := ?_) (a' := ?_) (bl 54 8388607) rfl rfl (any_of HT_.out (by kernel_rfl)) (fun _ _ _ h => h) (Or.inl ⟨by rfl, ?_⟩) ?_ ?_
       rotate_left
       ·intro w'
        go_simp
        with_reducible rfl
       rotate_left
       ·simp only [Act.put, sA, sZ, sS, i64_w, i32_w]
        rfl
       refine pure_ (i := 23) (N := some 93) (v := ?_) (a' := ?_) (bl 54 16777215) rfl rfl (any_of HT_.out (by kernel_rfl)) (fun _ _ _ h => h) (Or.inl ⟨by rfl, ?_⟩) ?_ ?_
       rotate_left
       ·intro w'
        go_simp
        with_reducible rfl
       rotate_left
       ·simp only [Act.put, sA, sZ, sS, i64_w, i32_w]
        rfl
       refine pure_ (i := 24) (N := some 94) (v := ?_) (a' := ?_) (bl 54 33554431) rfl rfl (any_of HT_.out (by kernel_rfl)) (fun _ _ _ h => h) (Or.inl ⟨by rfl, ?_⟩) ?_ ?_
       rotate_left
       ·intro w'
        go_simp
        with_reducible rfl
       rotate_left
       ·simp only [Act.put, sA, sZ, sS, i64_w, i32_w]
        rfl
       refine pure_ (i := 25) (N := some 95) (v := ?_) (a' := ?_) (bl 54 67108863) rfl rfl (any_of HT_.out (by kernel_rfl)) (fun _ _ _ h => h) (Or.inl ⟨by rfl, ?_⟩) ?_ ?_
       rotate_left
       ·intro w'
        go_simp
        with_reducible rfl
       rotate_left
       ·simp only [Act.put, sA, sZ, sS, i64_w, i32_w]
        rfl
       refine pure_ (i := 26) (N := some 96) (v := ?_) (a' := ?_) (bl 54 134217727) rfl rfl (any_of HT_.out (by kernel_rfl)) (fun _ _ _ h => h) (Or.inl ⟨by rfl, ?_⟩) ?_ ?_
       rotate_left
       ·intro w'
        go_simp
        with_reducible rfl
       rotate_left
       ·simp only [Act.put, sA, sZ, sS, i64_w, i32_w]
        rfl
       refine pure_ (i := 27) (N := some 97) (v := ?_) (a' := ?_) (bl 54 268435455) rfl rfl (any_of HT_.out (by kernel_rfl)) (fun _ _ _ h => h) (Or.inl ⟨by rfl, ?_⟩) ?_ ?_
       rotate_left
       ·intro w'
        go_simp
        with_reducible rfl
       rotate_left
       ·simp only [Act.put, sA, sZ, sS, i64_w, i32_w]
        rfl
       refine pure_ (i := 28) (N := some 98) (v := ?_) (a' := ?_) (bl 54 536870911) rfl rfl (any_of HT_.out (by kernel_rfl)) (fun _ _ _ h => h) (Or.inl ⟨by rfl, ?_⟩) ?_ ?_
       rotate_left
       ·intro w'
        go_simp
        with_reducible rfl
       rotate_left
       ·simp only [Act.put, sA, sZ, sS, i64_w, i32_w]
        rfl
       refine pure_ (i := 31) (N := some 101) (v := ?_) (a' := ?_) (bl 54 2684354559) rfl rfl (any_of HT_.out (by kernel_rfl)) (fun _ _ _ h => h) (Or.inl ⟨by rfl, ?_⟩) ?_ ?_
       rotate_left
       ·intro w'
        go_simp
        with_reducible rfl
       rotate_left
       ·simp only [Act.put, sA, sZ, sS, i64_w, i32_w]
        rfl
       refine pure_ (i := 32) (N := some 102) (v := ?_) (a' := ?_) (bl 54 6979321855) rfl rfl (any_of HT_.out (by kernel_rfl)) (fun _ _ _ h => h) (Or.inl ⟨by rfl, ?_⟩) ?_ ?_
       rotate_left
       ·intro w'
        go_simp
        with_reducible rfl
       rotate_left
       ·simp only [Act.put, sA, sZ, sS, i64_w, i32_w]
        rfl
       refine pure_ (i := 33) (N := some 103) (v := ?_) (a' := ?_) (bl 54 15569256447) rfl rfl (any_of HT_.out (by kernel_rfl)) (fun _ _ _ h => h) (Or.inl ⟨by rfl, ?_⟩) ?_ ?_
       rotate_left
       ·intro w'
        go_simp
        with_reducible rfl
       rotate_left
       ·simp only [Act.put, sA, sZ, sS, i64_w, i32_w]
        rfl
       refine pure_ (i := 34) (N := some 104) (v := ?_) (a' := ?_) (bl 54 32749125631) rfl rfl (any_of HT_.out (by kernel_rfl)) (fun _ _ _ h => h) (Or.inl ⟨by rfl, ?_⟩) ?_ ?_
       rotate_left
       ·intro w'
        go_simp
        with_reducible rfl
       rotate_left
       ·simp only [Act.put, sA, sZ, sS, i64_w, i32_w]
        rfl
       refine take_ (i := 29) (N := some 99) (v := ?_) (a' := ?_) (bl 54 33285996543) rfl rfl (take_ofW HT_.out HW_.out (by kernel_rfl)) (fun _ _ _ h => h) (Or.inl ⟨by rfl, ?_⟩) hHeld ?_ ?_
       rotate_left
       ·rintro w' ⟨s0, s1, s2, s3, s4, s5, s6, s7, s8, s9, s10, s11⟩
        go_simp
        with_reducible rfl
       rotate_left
       ·simp only [Act.put, sA, sZ, sS, i64_w, i32_w]
        rfl
       refine pure_ (i := 30) (N := some 100) (v := ?_) (a' := ?_) (bl 54 34359738367) rfl rfl (any_of HT_.out (by kernel_rfl)) (fun _ _ _ h => h) (Or.inl ⟨by rfl, ?_⟩) ?_ ?_
       rotate_left
       ·intro w'
        go_simp
        with_reducible rfl
       rotate_left
       ·simp only [Act.put, sA, sZ, sS, i64_w, i32_w]
        rfl
       refine take_ (i := 35) (N := some 105) (v := ?_) (a' := ?_) (bl 54 68719476735) rfl rfl (take_ofW HT_.out HW_.out (by kernel_rfl)) (fun _ _ _ h => h) (Or.inl ⟨by rfl, ?_⟩) hHeld ?_ ?_
       rotate_left
       ·rintro w' ⟨s0, s1, s2, s3, s4, s5, s6, s7, s8, s9, s10, s11⟩
        go_simp
        with_reducible rfl
       rotate_left
       ·simp only [Act.put, sA, sZ, sS, i64_w, i32_w]
        rfl
       refine pure_ (i := 36) (N := some 106) (v := ?_) (a' := ?_) (bl 54 137438953471) rfl rfl (any_of HT_.out (by kernel_rfl)) (fun _ _ _ h => h) (Or.inl ⟨by rfl, ?_⟩) ?_ ?_
       rotate_left
       ·intro w'
        go_simp
        with_reducible rfl
       rotate_left
       ·simp only [Act.put, sA, sZ, sS, i64_w, i32_w]
        rfl
       refine pure_ (i := 37) (N := some 107) (v := ?_) (a' := ?_) (bl 54 274877906943) rfl rfl (any_of HT_.out (by kernel_rfl)) (fun _ _ _ h => h) (Or.inl ⟨by rfl, ?_⟩) ?_ ?_
       rotate_left
       ·intro w'
        go_simp
        with_reducible rfl
       rotate_left
       ·simp only [Act.put, sA, sZ, sS, i64_w, i32_w]
        rfl
       refine pure_ (i := 38) (N := some 108) (v := ?_) (a' := ?_) (bl 54 549755813887) rfl rfl (any_of HT_.out (by kernel_rfl)) (fun _ _ _ h => h) (Or.inl ⟨by rfl, ?_⟩) ?_ ?_
       rotate_left
       ·intro w'
        go_simp
        with_reducible rfl
       rotate_left
       ·simp only [Act.put, sA, sZ, sS, i64_w, i32_w]
        rfl
       refine pure_ (i := 39) (N := some 109) (v := ?_) (a' := ?_) (bl 54 1099511627775) rfl rfl (any_of HT_.out (by kernel_rfl)) (fun _ _ _ h => h) (Or.inl ⟨by rfl, ?_⟩) ?_ ?_
       rotate_left
       ·intro w'
        go_simp
        with_reducible rfl
       rotate_left
       ·simp only [Act.put, sA, sZ, sS, i64_w, i32_w]
        rfl
       refine pure_ (i := 40) (N := some 110) (v := undef) (a' := ?_) (bl 54 2199023255551) rfl rfl (any_of HT_.out (by kernel_rfl)) (fun _ _ _ h => h) (Or.inr ⟨by rfl, rfl⟩) ?_ ?_
       rotate_left
       ·simp only [Act.put, sA, sZ, sS, i64_w, i32_w]
        rfl
       refine pure_ (i := 41) (N := some 111) (v := undef) (a' := ?_) (bl 54 4398046511103) rfl rfl (any_of HT_.out (by kernel_rfl)) (fun _ _ _ h => h) (Or.inr ⟨by rfl, rfl⟩) ?_ ?_
       rotate_left
       ·simp only [Act.put, sA, sZ, sS, i64_w, i32_w]
        rfl
       refine pure_ (i := 42) (N := some 112) (v := undef) (a' := ?_) (bl 54 8796093022207) rfl rfl (any_of HT_.out (by kernel_rfl)) (fun _ _ _ h => h) (Or.inr ⟨by rfl, rfl⟩) ?_ ?_
       rotate_left
       ·simp only [Act.put, sA, sZ, sS, i64_w, i32_w]
        rfl
       refine pure_ (i := 43) (N := some 113) (v := undef) (a' := ?_) (bl 54 17592186044415) rfl rfl (any_of HT_.out (by kernel_rfl)) (fun _ _ _ h => h) (Or.inr ⟨by rfl, rfl⟩) ?_ ?_
       rotate_left
       ·simp only [Act.put, sA, sZ, sS, i64_w, i32_w]
        rfl
       refine pure_ (i := 44) (N := some 114) (v := undef) (a' := ?_) (bl 54 35184372088831) rfl rfl (any_of HT_.out (by kernel_rfl)) (fun _ _ _ h => h) (Or.inr ⟨by rfl, rfl⟩) ?_ ?_
       rotate_left
       ·simp only [Act.put, sA, sZ, sS, i64_w, i32_w]
        rfl
       refine pure_ (i := 45) (N := some 115) (v := undef) (a' := ?_) (bl 54 70368744177663) rfl rfl (any_of HT_.out (by kernel_rfl)) (fun _ _ _ h => h) (Or.inr ⟨by rfl, rfl⟩) ?_ ?_
       rotate_left
       ·simp only [Act.put, sA, sZ, sS, i64_w, i32_w]
        rfl
       refine pure_ (i := 46) (N := some 116) (v := undef) (a' := ?_) (bl 54 140737488355327) rfl rfl (any_of HT_.out (by kernel_rfl)) (fun _ _ _ h => h) (Or.inr ⟨by rfl, rfl⟩) ?_ ?_
       rotate_left
       ·simp only [Act.put, sA, sZ, sS, i64_w, i32_w]
        rfl
       refine pure_ (i := 47) (N := some 117) (v := undef) (a' := ?_) (bl 54 281474976710655) rfl rfl (any_of HT_.out (by kernel_rfl)) (fun _ _ _ h => h) (Or.inr ⟨by rfl, rfl⟩) ?_ ?_
       rotate_left
       ·simp only [Act.put, sA, sZ, sS, i64_w, i32_w]
        rfl
       refine pure_ (i := 48) (N := some 118) (v := undef) (a' := ?_) (bl 54 562949953421311) rfl rfl (any_of HT_.out (by kernel_rfl)) (fun _ _ _ h => h) (Or.inr ⟨by rfl, rfl⟩) ?_ ?_
       rotate_left
       ·simp only [Act.put, sA, sZ, sS, i64_w, i32_w]
        rfl
       refine pure_ (i := 49) (N := some 119) (v := undef) (a' := ?_) (bl 54 1125899906842623) rfl rfl (any_of HT_.out (by kernel_rfl)) (fun _ _ _ h => h) (Or.inr ⟨by rfl, rfl⟩) ?_ ?_
       rotate_left
       ·simp only [Act.put, sA, sZ, sS, i64_w, i32_w]
        rfl
       refine pure_ (i := 50) (N := some 120) (v := undef) (a' := ?_) (bl 54 2251799813685247) rfl rfl (any_of HT_.out (by kernel_rfl)) (fun _ _ _ h => h) (Or.inr ⟨by rfl, rfl⟩) ?_ ?_
       rotate_left
       ·simp only [Act.put, sA, sZ, sS, i64_w, i32_w]
        rfl
       refine pure_ (i := 51) (N := some 121) (v := undef) (a' := ?_) (bl 54 4503599627370495) rfl rfl (any_of HT_.out (by kernel_rfl)) (fun _ _ _ h => h) (Or.inr ⟨by rfl, rfl⟩) ?_ ?_
       rotate_left
       ·simp only [Act.put, sA, sZ, sS, i64_w, i32_w]
        rfl
       refine pure_ (i := 52) (N := some 122) (v := undef) (a' := ?_) (bl 54 9007199254740991) rfl rfl (any_of HT_.out (by kernel_rfl)) (fun _ _ _ h => h) (Or.inr ⟨by rfl, rfl⟩) ?_ ?_
       rotate_left
       ·simp only [Act.put, sA, sZ, sS, i64_w, i32_w]
        rfl
       refine pure_ (i := 53) (N := some 123) (v := ?_) (a' := ?_) (bl 54 18014398509481983) rfl rfl (any_of HT_.out (by kernel_rfl)) (fun _ _ _ h => h) (Or.inl ⟨by rfl, ?_⟩) ?_ ?_
       rotate_left
       ·intro w'
        go_simp
        with_reducible rfl
       rotate_left
       ·simp only [Act.put, sA, sZ, sS, i64_w, i32_w]
        rfl
       refine done_ (done_of HT_.out (by kernel_rfl)) ?_
       try go_wp2
       go_meet
       case rel => exact ⟨_, (true), (by first | rfl | (simp; done) | (simp [*]; done)), H', ⟨by have := HJ11.out; have := HK2.out; first | omega | exact Nat.le_refl _⟩, ⟨by (with_reducible repeat (first | apply Kd.S_alloc | apply Kd.S_drewN | apply Kd.S_drew)); exact HO_6.out⟩, ⟨by (with_reducible repeat (first | apply Kd.S_alloc | apply Kd.S_drewN | apply Kd.S_drew)); exact HO_7.out⟩, ⟨by (with_reducible repeat (first | apply Kd.S_alloc | apply Kd.S_drewN | apply Kd.S_drew)); exact HO_8.out⟩, ⟨by (with_reducible repeat (first | refine bN ?_ _ | refine bD ?_ | refine bA ?_ _)); exact BK301.out⟩, ⟨by repeat (first | (with_reducible first | exact HB.out | apply lA | apply lN | apply lD | refine lS ?_ GE301.out) | exact HB.out)⟩⟩
      rw [if_pos c47] at H
      have c47b0 : ((((rd_T52 t304 x9_2).vars).length : Int) == (((rd_T52 t307 x9_2).vars).length : Int)) = true := beq_iff_eq.mpr c47
      have c47b1 : ((((rd_T52 t304 x9_2).vars).length : Int) != (((rd_T52 t307 x9_2).vars).length : Int)) = false := bne_eq_false_iff_eq.mpr c47
      have c47b2 : (((rd_T52 t304 x9_2).vars).length == ((rd_T52 t307 x9_2).vars).length) = true := by first | simpa using c47 | (simp at c47 ⊢; omega)
      clear c47
      have H' := am H
      clear H
      try go_wp2
      replace HO_6 := am (Kd.S_drew HO_6.out)
      replace HO_7 := am (Kd.S_drew HO_7.out)
      replace HO_8 := am (Kd.S_drew HO_8.out)
      replace BK301 := am (blk_drew BK301.out)
      replace HB := am (below_drew1 HB.out)
      have p325 : 0 ≤ (x9_2 : Int) := of_decide_eq_true (by first | (with_reducible assumption) | assumption)
      have q325 : x9_2 < (t304.length : Int) := of_decide_eq_true (by first | (with_reducible assumption) | assumption)
      obtain ⟨ad325, A325_1, c325_1, e325, hx325_0, hx325_1, hl325_1, hi325_1⟩ := at_T52 (Kd.S_reads' HO_6.out).2.2 x9_2 p325 q325
      cases e325
      obtain ⟨ce325, hce325, hMe325, hcc325⟩ := Kd.S_get HO_6.out z52 x9_2 p325 (by first | exact q325 | exact of_decide_eq_true (by first | (with_reducible assumption) | assumption) | (have e_ := (Kd.S_reads' HO_6.out).1; omega))
      obtain ⟨ve325_1, rfl, ge325_1⟩ := k52_openM hMe325
      have hv325_1 := hcc325 1 _ rfl
      rw [add_field _ _ 1 (by omega)] at hv325_1
      replace hv325_1 := Option.some.inj (hv325_1.symm.trans hx325_1)
      rw [hv325_1] at ge325_1
      have HL325_1 := am (show Kd.R k54 54 _ _ _ _ ((rd_T52 t304 x9_2).vars) from ge325_1)
      clear hv325_1 ge325_1
      clear hcc325 hce325
      have HR325_1 := am hi325_1
      have HC325_1 := am hl325_1
      clear hi325_1 hl325_1
      replace p325 := eq_true p325
      replace q325 := eq_true q325
      obtain ⟨Ao49, co49, eo49⟩ := Kd.S_slice HO_7.out
      (first | subst eo49 | (injection eo49 with f1_ f2_ f3_; have f4_ := f1_.symm; have f5_ := f3_.symm; clear f1_ f2_ f3_; subst f4_; subst f5_))
      have p326 : 0 ≤ (x9_2 : Int) := of_decide_eq_true (by first | (with_reducible assumption) | assumption)
      have q326 : x9_2 < (t307.length : Int) := of_decide_eq_true (by first | (with_reducible assumption) | assumption)
      obtain ⟨ad326, A326_1, c326_1, e326, hx326_0, hx326_1, hl326_1, hi326_1⟩ := at_T52 (Kd.S_reads' HO_7.out).2.2 x9_2 p326 q326
      cases e326
      obtain ⟨ce326, hce326, hMe326, hcc326⟩ := Kd.S_get HO_7.out z52 x9_2 p326 (by first | exact q326 | exact of_decide_eq_true (by first | (with_reducible assumption) | assumption) | (have e_ := (Kd.S_reads' HO_7.out).1; omega))
      obtain ⟨ve326_1, rfl, ge326_1⟩ := k52_openM hMe326
      have hv326_1 := hcc326 1 _ rfl
      rw [add_field _ _ 1 (by omega)] at hv326_1
      replace hv326_1 := Option.some.inj (hv326_1.symm.trans hx326_1)
      rw [hv326_1] at ge326_1
      have HL326_1 := am (show Kd.R k54 54 _ _ _ _ ((rd_T52 t307 x9_2).vars) from ge326_1)
      clear hv326_1 ge326_1
      clear hcc326 hce326
      have HR326_1 := am hi326_1
      have HC326_1 := am hl326_1
      clear hi326_1 hl326_1
      replace p326 := eq_true p326
      replace q326 := eq_true q326
      have p327 : 0 ≤ (x9_2 : Int) := of_decide_eq_true (by first | (with_reducible assumption) | assumption)
      have q327 : x9_2 < (t304.length : Int) := of_decide_eq_true (by first | (with_reducible assumption) | assumption)
      obtain ⟨ad327, A327_1, c327_1, e327, hx327_0, hx327_1, hl327_1, hi327_1⟩ := at_T52 (Kd.S_reads' HO_6.out).2.2 x9_2 p327 q327
      obtain rfl : ad325 = ad327 := (by injection e327)
      obtain ⟨ce327, hce327, hMe327, hcc327⟩ := Kd.S_get HO_6.out z52 x9_2 p327 (by first | exact q327 | exact of_decide_eq_true (by first | (with_reducible assumption) | assumption) | (have e_ := (Kd.S_reads' HO_6.out).1; omega))
      obtain ⟨ve327_1, rfl, ge327_1⟩ := k52_openM hMe327
      have hv327_1 := hcc327 1 _ rfl
      rw [add_field _ _ 1 (by omega)] at hv327_1
      replace hv327_1 := Option.some.inj (hv327_1.symm.trans hx327_1)
      rw [hv327_1] at ge327_1
      have HL327_1 := am (show Kd.R k54 54 _ _ _ _ ((rd_T52 t304 x9_2).vars) from ge327_1)
      clear hv327_1 ge327_1
      clear hcc327 hce327
      have HR327_1 := am hi327_1
      have HC327_1 := am hl327_1
      clear hi327_1 hl327_1
      replace p327 := eq_true p327
      replace q327 := eq_true q327
      have ea_ := Option.some.inj (hx325_1.symm.trans hx327_1)
      injection ea_ with ea_ en_ ec_
      subst ea_
      subst ec_
      clear en_
      obtain ⟨Ao50, co50, eo50⟩ := Kd.S_slice HO_8.out
      (first | subst eo50 | (injection eo50 with f1_ f2_ f3_; have f4_ := f1_.symm; have f5_ := f3_.symm; clear f1_ f2_ f3_; subst f4_; subst f5_))
      have p328 : 0 ≤ (x9_2 : Int) := of_decide_eq_true (by first | (with_reducible assumption) | assumption)
      have q328 : x9_2 < (t322.length : Int) := of_decide_eq_true (by first | (with_reducible assumption) | assumption)
      obtain ⟨ad328, A328_1, c328_1, e328, hx328_0, hx328_1, hl328_1, hi328_1⟩ := at_T52 (Kd.S_reads' HO_8.out).2.2 x9_2 p328 q328
      cases e328
      obtain ⟨ce328, hce328, hMe328, hcc328⟩ := Kd.S_get HO_8.out z52 x9_2 p328 (by first | exact q328 | exact of_decide_eq_true (by first | (with_reducible assumption) | assumption) | (have e_ := (Kd.S_reads' HO_8.out).1; omega))
      obtain ⟨ve328_1, rfl, ge328_1⟩ := k52_openM hMe328
      have hv328_1 := hcc328 1 _ rfl
      rw [add_field _ _ 1 (by omega)] at hv328_1
      replace hv328_1 := Option.some.inj (hv328_1.symm.trans hx328_1)
      rw [hv328_1] at ge328_1
      have HL328_1 := am (show Kd.R k54 54 _ _ _ _ ((rd_T52 t322 x9_2).vars) from ge328_1)
      clear hv328_1 ge328_1
      clear hcc328 hce328
      have HR328_1 := am hi328_1
      have HC328_1 := am hl328_1
      clear hi328_1 hl328_1
      replace p328 := eq_true p328
      replace q328 := eq_true q328
      have p329 : 0 ≤ (x9_2 : Int) := of_decide_eq_true (by first | (with_reducible assumption) | assumption)
      have q329 : x9_2 < (t304.length : Int) := of_decide_eq_true (by first | (with_reducible assumption) | assumption)
      obtain ⟨ad329, A329_1, c329_1, e329, hx329_0, hx329_1, hl329_1, hi329_1⟩ := at_T52 (Kd.S_reads' HO_6.out).2.2 x9_2 p329 q329
      obtain rfl : ad325 = ad329 := (by injection e329)
      obtain ⟨ce329, hce329, hMe329, hcc329⟩ := Kd.S_get HO_6.out z52 x9_2 p329 (by first | exact q329 | exact of_decide_eq_true (by first | (with_reducible assumption) | assumption) | (have e_ := (Kd.S_reads' HO_6.out).1; omega))
      obtain ⟨ve329_1, rfl, ge329_1⟩ := k52_openM hMe329
      have hv329_1 := hcc329 1 _ rfl
      rw [add_field _ _ 1 (by omega)] at hv329_1
      replace hv329_1 := Option.some.inj (hv329_1.symm.trans hx329_1)
      rw [hv329_1] at ge329_1
      have HL329_1 := am (show Kd.R k54 54 _ _ _ _ ((rd_T52 t304 x9_2).vars) from ge329_1)
      clear hv329_1 ge329_1
      clear hcc329 hce329
      have HR329_1 := am hi329_1
      have HC329_1 := am hl329_1
      clear hi329_1 hl329_1
      replace p329 := eq_true p329
      replace q329 := eq_true q329
      have ea_ := Option.some.inj (hx325_1.symm.trans hx329_1)
      injection ea_ with ea_ en_ ec_
      subst ea_
      subst ec_
      clear en_
      have p330 : 0 ≤ (x9_2 : Int) := of_decide_eq_true (by first | (with_reducible assumption) | assumption)
      have q330 : x9_2 < (t307.length : Int) := of_decide_eq_true (by first | (with_reducible assumption) | assumption)
      obtain ⟨ad330, A330_1, c330_1, e330, hx330_0, hx330_1, hl330_1, hi330_1⟩ := at_T52 (Kd.S_reads' HO_7.out).2.2 x9_2 p330 q330
      obtain rfl : ad326 = ad330 := (by injection e330)
      obtain ⟨ce330, hce330, hMe330, hcc330⟩ := Kd.S_get HO_7.out z52 x9_2 p330 (by first | exact q330 | exact of_decide_eq_true (by first | (with_reducible assumption) | assumption) | (have e_ := (Kd.S_reads' HO_7.out).1; omega))
      obtain ⟨ve330_1, rfl, ge330_1⟩ := k52_openM hMe330
      have hv330_1 := hcc330 1 _ rfl
      rw [add_field _ _ 1 (by omega)] at hv330_1
      replace hv330_1 := Option.some.inj (hv330_1.symm.trans hx330_1)
      rw [hv330_1] at ge330_1
      have HL330_1 := am (show Kd.R k54 54 _ _ _ _ ((rd_T52 t307 x9_2).vars) from ge330_1)
      clear hv330_1 ge330_1
      clear hcc330 hce330
      have HR330_1 := am hi330_1
      have HC330_1 := am hl330_1
      clear hi330_1 hl330_1
      replace p330 := eq_true p330
      replace q330 := eq_true q330
      have ea_ := Option.some.inj (hx326_1.symm.trans hx330_1)
      injection ea_ with ea_ en_ ec_
      subst ea_
      subst ec_
      clear en_
      have p331 : 0 ≤ (x9_2 : Int) := of_decide_eq_true (by first | (with_reducible assumption) | assumption)
      have q331 : x9_2 < (t304.length : Int) := of_decide_eq_true (by first | (with_reducible assumption) | assumption)
      obtain ⟨ad331, A331_1, c331_1, e331, hx331_0, hx331_1, hl331_1, hi331_1⟩ := at_T52 (Kd.S_reads' HO_6.out).2.2 x9_2 p331 q331
      obtain rfl : ad325 = ad331 := (by injection e331)
      obtain ⟨ce331, hce331, hMe331, hcc331⟩ := Kd.S_get HO_6.out z52 x9_2 p331 (by first | exact q331 | exact of_decide_eq_true (by first | (with_reducible assumption) | assumption) | (have e_ := (Kd.S_reads' HO_6.out).1; omega))
      obtain ⟨ve331_1, rfl, ge331_1⟩ := k52_openM hMe331
      have hv331_1 := hcc331 1 _ rfl
      rw [add_field _ _ 1 (by omega)] at hv331_1
      replace hv331_1 := Option.some.inj (hv331_1.symm.trans hx331_1)
      rw [hv331_1] at ge331_1
      have HL331_1 := am (show Kd.R k54 54 _ _ _ _ ((rd_T52 t304 x9_2).vars) from ge331_1)
      clear hv331_1 ge331_1
      clear hcc331 hce331
      have HR331_1 := am hi331_1
      have HC331_1 := am hl331_1
      clear hi331_1 hl331_1
      replace p331 := eq_true p331
      replace q331 := eq_true q331
      have ea_ := Option.some.inj (hx325_1.symm.trans hx331_1)
      injection ea_ with ea_ en_ ec_
      subst ea_
      subst ec_
      clear en_
      have p332 : 0 ≤ (x9_2 : Int) := of_decide_eq_true (by first | (with_reducible assumption) | assumption)
      have q332 : x9_2 < (t322.length : Int) := of_decide_eq_true (by first | (with_reducible assumption) | assumption)
      obtain ⟨ad332, A332_1, c332_1, e332, hx332_0, hx332_1, hl332_1, hi332_1⟩ := at_T52 (Kd.S_reads' HO_8.out).2.2 x9_2 p332 q332
      obtain rfl : ad328 = ad332 := (by injection e332)
      obtain ⟨ce332, hce332, hMe332, hcc332⟩ := Kd.S_get HO_8.out z52 x9_2 p332 (by first | exact q332 | exact of_decide_eq_true (by first | (with_reducible assumption) | assumption) | (have e_ := (Kd.S_reads' HO_8.out).1; omega))
      obtain ⟨ve332_1, rfl, ge332_1⟩ := k52_openM hMe332
      have hv332_1 := hcc332 1 _ rfl
      rw [add_field _ _ 1 (by omega)] at hv332_1
      replace hv332_1 := Option.some.inj (hv332_1.symm.trans hx332_1)
      rw [hv332_1] at ge332_1
      have HL332_1 := am (show Kd.R k54 54 _ _ _ _ ((rd_T52 t322 x9_2).vars) from ge332_1)
      clear hv332_1 ge332_1
      clear hcc332 hce332
      have HR332_1 := am hi332_1
      have HC332_1 := am hl332_1
      clear hi332_1 hl332_1
      replace p332 := eq_true p332
      replace q332 := eq_true q332
      have ea_ := Option.some.inj (hx328_1.symm.trans hx332_1)
      injection ea_ with ea_ en_ ec_
      subst ea_
      subst ec_
      clear en_
      refine start_ (n := 54) (S := fun w' => w'.cell? (ad325.add ((x9_2).toNat * 2)) = some (.int .i64 ((rd_T52 t304 x9_2).place)) ∧ w'.cell? ⟨(ad325.add ((x9_2).toNat * 2)).block, (ad325.add ((x9_2).toNat * 2)).off + 1, none⟩ = some (.slice A325_1 ((rd_T52 t304 x9_2).vars).length c325_1) ∧ w'.cell? (ad326.add ((x9_2).toNat * 2)) = some (.int .i64 ((rd_T52 t307 x9_2).place)) ∧ w'.cell? ⟨(ad326.add ((x9_2).toNat * 2)).block, (ad326.add ((x9_2).toNat * 2)).off + 1, none⟩ = some (.slice A326_1 ((rd_T52 t307 x9_2).vars).length c326_1) ∧ w'.cell? (ad325.add ((x9_2).toNat * 2)) = some (.int .i64 ((rd_T52 t304 x9_2).place)) ∧ w'.cell? ⟨(ad325.add ((x9_2).toNat * 2)).block, (ad325.add ((x9_2).toNat * 2)).off + 1, none⟩ = some (.slice A325_1 ((rd_T52 t304 x9_2).vars).length c325_1) ∧ w'.cell? (ad328.add ((x9_2).toNat * 2)) = some (.int .i64 ((rd_T52 t322 x9_2).place)) ∧ w'.cell? ⟨(ad328.add ((x9_2).toNat * 2)).block, (ad328.add ((x9_2).toNat * 2)).off + 1, none⟩ = some (.slice A328_1 ((rd_T52 t322 x9_2).vars).length c328_1) ∧ w'.cell? (ad325.add ((x9_2).toNat * 2)) = some (.int .i64 ((rd_T52 t304 x9_2).place)) ∧ w'.cell? ⟨(ad325.add ((x9_2).toNat * 2)).block, (ad325.add ((x9_2).toNat * 2)).off + 1, none⟩ = some (.slice A325_1 ((rd_T52 t304 x9_2).vars).length c325_1) ∧ w'.cell? (ad326.add ((x9_2).toNat * 2)) = some (.int .i64 ((rd_T52 t307 x9_2).place)) ∧ w'.cell? ⟨(ad326.add ((x9_2).toNat * 2)).block, (ad326.add ((x9_2).toNat * 2)).off + 1, none⟩ = some (.slice A326_1 ((rd_T52 t307 x9_2).vars).length c326_1) ∧ w'.cell? (ad325.add ((x9_2).toNat * 2)) = some (.int .i64 ((rd_T52 t304 x9_2).place)) ∧ w'.cell? ⟨(ad325.add ((x9_2).toNat * 2)).block, (ad325.add ((x9_2).toNat * 2)).off + 1, none⟩ = some (.slice A325_1 ((rd_T52 t304 x9_2).vars).length c325_1) ∧ w'.cell? (ad328.add ((x9_2).toNat * 2)) = some (.int .i64 ((rd_T52 t322 x9_2).place)) ∧ w'.cell? ⟨(ad328.add ((x9_2).toNat * 2)).block, (ad328.add ((x9_2).toNat * 2)).off + 1, none⟩ = some (.slice A328_1 ((rd_T52 t322 x9_2).vars).length c328_1)) (ds := []) (bl 54 0) (by kernel_rfl) rfl rfl ⟨hx325_0, hx325_1, hx326_0, hx326_1, hx327_0, hx327_1, hx328_0, hx328_1, hx329_0, hx329_1, hx330_0, hx330_1, hx331_0, hx331_1, hx332_0, hx332_1⟩ (fun hHeld => ?_); refine with_tabW lambrequinlaw22_InterpMore.tab12 lambrequinlaw22_InterpMore.bits12 (fun HT_ HW_ => ?_)
      generalize wr.drew = w48 at HO_6 HO_7 HO_8 BK301 HB HL325_1 HL326_1 HL327_1 HL328_1 HL329_1 HL330_1 HL331_1 HL332_1 HR325_1 HR326_1 HR327_1 HR328_1 HR329_1 HR330_1 HR331_1 HR332_1 hx325_0 hx325_1 hx326_0 hx326_1 hx327_0 hx327_1 hx328_0 hx328_1 hx329_0 hx329_1 hx330_0 hx330_1 hx331_0 hx331_1 hx332_0 hx332_1 hHeld ⊢
      refine pure_ (i := 0) (N := some 70) (v := ?_) (a' := ?_) (bl 54 1) rfl rfl (any_of HT_.out (by kernel_rfl)) (fun _ _ _ h => h) (Or.inl ⟨by rfl, ?_⟩) ?_ ?_
      rotate_left
      ·intro w'
       go_simp
       with_reducible rfl
      rotate_left
      ·simp only [Act.put, sA, sZ, sS, i64_w, i32_w]
       rfl
      refine pure_ (i := 1) (N := some 71) (v := ?_) (a' := ?_) (bl 54 3) rfl rfl (any_of HT_.out (by kernel_rfl)) (fun _ _ _ h => h) (Or.inl ⟨by rfl, ?_⟩) ?_ ?_
      rotate_left
      ·intro w'
       go_simp
       with_reducible rfl
      rotate_left
      ·simp only [Act.put, sA, sZ, sS, i64_w, i32_w]
       rfl
      refine pure_ (i := 2) (N := some 72) (v := ?_) (a' := ?_) (bl 54 7) rfl rfl (any_of HT_.out (by kernel_rfl)) (fun _ _ _ h => h) (Or.inl ⟨by rfl, ?_⟩) ?_ ?_
      rotate_left
      ·intro w'
       go_simp
       with_reducible rfl
      rotate_left
      ·simp only [Act.put, sA, sZ, sS, i64_w, i32_w]
       rfl
      refine pure_ (i := 3) (N := some 73) (v := ?_) (a' := ?_) (bl 54 15) rfl rfl (any_of HT_.out (by kernel_rfl)) (fun _ _ _ h => h) (Or.inl ⟨by rfl, ?_⟩) ?_ ?_
      rotate_left
      ·intro w'
       go_simp
       with_reducible rfl
      rotate_left
      ·simp only [Act.put, sA, sZ, sS, i64_w, i32_w]
       rfl
      refine pure_ (i := 5) (N := some 75) (v := ?_) (a' := ?_) (bl 54 47) rfl rfl (any_of HT_.out (by kernel_rfl)) (fun _ _ _ h => h) (Or.inl ⟨by rfl, ?_⟩) ?_ ?_
      rotate_left
      ·intro w'
       go_simp
       with_reducible rfl
      rotate_left
      ·simp only [Act.put, sA, sZ, sS, i64_w, i32_w]
       rfl
      refine pure_ (i := 6) (N := some 76) (v := ?_) (a' := ?_) (bl 54 111) rfl rfl (any_of HT_.out (by kernel_rfl)) (fun _ _ _ h => h) (Or.inl ⟨by rfl, ?_⟩) ?_ ?_
      rotate_left
      ·intro w'
       go_simp
       with_reducible rfl
      rotate_left
      ·simp only [Act.put, sA, sZ, sS, i64_w, i32_w]
       rfl
      refine pure_ (i := 7) (N := some 77) (v := ?_) (a' := ?_) (bl 54 239) rfl rfl (any_of HT_.out (by kernel_rfl)) (fun _ _ _ h => h) (Or.inl ⟨by rfl, ?_⟩) ?_ ?_
      rotate_left
      ·intro w'
       go_simp
       with_reducible rfl
      rotate_left
      ·simp only [Act.put, sA, sZ, sS, i64_w, i32_w]
       rfl
      refine pure_ (i := 8) (N := some 78) (v := ?_) (a' := ?_) (bl 54 495) rfl rfl (any_of HT_.out (by kernel_rfl)) (fun _ _ _ h => h) (Or.inl ⟨by rfl, ?_⟩) ?_ ?_
      rotate_left
      ·intro w'
       go_simp
       with_reducible rfl
      rotate_left
      ·simp only [Act.put, sA, sZ, sS, i64_w, i32_w]
       rfl
      refine take_ (i := 4) (N := some 74) (v := ?_) (a' := ?_) (bl 54 511) rfl rfl (take_ofW HT_.out HW_.out (by kernel_rfl)) (fun _ _ _ h => h) (Or.inl ⟨by rfl, ?_⟩) hHeld ?_ ?_
      rotate_left
      ·rintro w' ⟨s0, s1, s2, s3, s4, s5, s6, s7, s8, s9, s10, s11, s12, s13, s14, s15⟩
       go_simp
       with_reducible rfl
      rotate_left
      ·simp only [Act.put, sA, sZ, sS, i64_w, i32_w]
       rfl
      refine take_ (i := 9) (N := some 79) (v := ?_) (a' := ?_) (bl 54 1023) rfl rfl (take_ofW HT_.out HW_.out (by kernel_rfl)) (fun _ _ _ h => h) (Or.inl ⟨by rfl, ?_⟩) hHeld ?_ ?_
      rotate_left
      ·rintro w' ⟨s0, s1, s2, s3, s4, s5, s6, s7, s8, s9, s10, s11, s12, s13, s14, s15⟩
       go_simp
       with_reducible rfl
      rotate_left
      ·simp only [Act.put, sA, sZ, sS, i64_w, i32_w]
       rfl
      refine pure_ (i := 10) (N := some 80) (v := ?_) (a' := ?_) (bl 54 2047) rfl rfl (any_of HT_.out (by kernel_rfl)) (fun _ _ _ h => h) (Or.inl ⟨by rfl, ?_⟩) ?_ ?_
      rotate_left
      ·intro w'
       go_simp
       with_reducible rfl
      rotate_left
      ·simp only [Act.put, sA, sZ, sS, i64_w, i32_w]
       rfl
      refine pure_ (i := 11) (N := some 81) (v := ?_) (a' := ?_) (bl 54 4095) rfl rfl (any_of HT_.out (by kernel_rfl)) (fun _ _ _ h => h) (Or.inl ⟨by rfl, ?_⟩) ?_ ?_
      rotate_left
      ·intro w'
       go_simp
       with_reducible rfl
      rotate_left
      ·simp only [Act.put, sA, sZ, sS, i64_w, i32_w]
       rfl
      refine pure_ (i := 12) (N := some 82) (v := ?_) (a' := ?_) (bl 54 8191) rfl rfl (any_of HT_.out (by kernel_rfl)) (fun _ _ _ h => h) (Or.inl ⟨by rfl, ?_⟩) ?_ ?_
      rotate_left
      ·intro w'
       go_simp
       with_reducible rfl
      rotate_left
      ·simp only [Act.put, sA, sZ, sS, i64_w, i32_w]
       rfl
      refine pure_ (i := 13) (N := some 83) (v := ?_) (a' := ?_) (bl 54 16383) rfl rfl (any_of HT_.out (by kernel_rfl)) (fun _ _ _ h => h) (Or.inl ⟨by rfl, ?_⟩) ?_ ?_
      rotate_left
      ·intro w'
       go_simp
       with_reducible rfl
      rotate_left
      ·simp only [Act.put, sA, sZ, sS, i64_w, i32_w]
       rfl
      refine pure_ (i := 14) (N := some 84) (v := ?_) (a' := ?_) (bl 54 32767) rfl rfl (any_of HT_.out (by kernel_rfl)) (fun _ _ _ h => h) (Or.inl ⟨by rfl, ?_⟩) ?_ ?_
      rotate_left
      ·intro w'
       go_simp
       with_reducible rfl
      rotate_left
      ·simp only [Act.put, sA, sZ, sS, i64_w, i32_w]
       rfl
      refine pure_ (i := 15) (N := some 85) (v := ?_) (a' := ?_) (bl 54 65535) rfl rfl (any_of HT_.out (by kernel_rfl)) (fun _ _ _ h => h) (Or.inl ⟨by rfl, ?_⟩) ?_ ?_
      rotate_left
      ·intro w'
       go_simp
       with_reducible rfl
      rotate_left
      ·simp only [Act.put, sA, sZ, sS, i64_w, i32_w]
       rfl
      refine pure_ (i := 17) (N := some 87) (v := ?_) (a' := ?_) (bl 54 196607) rfl rfl (any_of HT_.out (by kernel_rfl)) (fun _ _ _ h => h) (Or.inl ⟨by rfl, ?_⟩) ?_ ?_
      rotate_left
      ·intro w'
       go_simp
       with_reducible rfl
      rotate_left
      ·simp only [Act.put, sA, sZ, sS, i64_w, i32_w]
       rfl
      refine pure_ (i := 18) (N := some 88) (v := ?_) (a' := ?_) (bl 54 458751) rfl rfl (any_of HT_.out (by kernel_rfl)) (fun _ _ _ h => h) (Or.inl ⟨by rfl, ?_⟩) ?_ ?_
      rotate_left
      ·intro w'
       go_simp
       with_reducible rfl
      rotate_left
      ·simp only [Act.put, sA, sZ, sS, i64_w, i32_w]
       rfl
      refine pure_ (i := 19) (N := some 89) (v := ?_) (a' := ?_) (bl 54 983039) rfl rfl (any_of HT_.out (by kernel_rfl)) (fun _ _ _ h => h) (Or.inl ⟨by rfl, ?_⟩) ?_ ?_
      rotate_left
      ·intro w'
       go_simp
       with_reducible rfl
      rotate_left
      ·simp only [Act.put, sA, sZ, sS, i64_w, i32_w]
       rfl
      refine pure_ (i := 20) (N := some 90) (v := ?_) (a' := ?_) (bl 54 2031615) rfl rfl (any_of HT_.out (by kernel_rfl)) (fun _ _ _ h => h) (Or.inl ⟨by rfl, ?_⟩) ?_ ?_
      rotate_left
      ·intro w'
       go_simp
       with_reducible rfl
      rotate_left
      ·simp only [Act.put, sA, sZ, sS, i64_w, i32_w]
       rfl
      refine take_ (i := 16) (N := some 86) (v := ?_) (a' := ?_) (bl 54 2097151) rfl rfl (take_ofW HT_.out HW_.out (by kernel_rfl)) (fun _ _ _ h => h) (Or.inl ⟨by rfl, ?_⟩) hHeld ?_ ?_
      rotate_left
      ·rintro w' ⟨s0, s1, s2, s3, s4, s5, s6, s7, s8, s9, s10, s11, s12, s13, s14, s15⟩
       go_simp
       with_reducible rfl
      rotate_left
      ·simp only [Act.put, sA, sZ, sS, i64_w, i32_w]
       rfl
      refine take_ (i := 21) (N := some 91) (v := ?_) (a' := ?_) (bl 54 4194303) rfl rfl (take_ofW HT_.out HW_.out (by kernel_rfl)) (fun _ _ _ h => h) (Or.inl ⟨by rfl, ?_⟩) hHeld ?_ ?_
      rotate_left
      ·rintro w' ⟨s0, s1, s2, s3, s4, s5, s6, s7, s8, s9, s10, s11, s12, s13, s14, s15⟩
       go_simp
       with_reducible rfl
      rotate_left
      ·simp only [Act.put, sA, sZ, sS, i64_w, i32_w]
       rfl
      refine pure_ (i := 22) (N := some 92) (v := ?_) (a' := ?_) (bl 54 8388607) rfl rfl (any_of HT_.out (by kernel_rfl)) (fun _ _ _ h => h) (Or.inl ⟨by rfl, ?_⟩) ?_ ?_
      rotate_left
      ·intro w'
       go_simp
       with_reducible rfl
      rotate_left
      ·simp only [Act.put, sA, sZ, sS, i64_w, i32_w]
       rfl
      refine pure_ (i := 23) (N := some 93) (v := ?_) (a' := ?_) (bl 54 16777215) rfl rfl (any_of HT_.out (by kernel_rfl)) (fun _ _ _ h => h) (Or.inl ⟨by rfl, ?_⟩) ?_ ?_
      rotate_left
      ·intro w'
       go_simp
       with_reducible rfl
      rotate_left
      ·simp only [Act.put, sA, sZ, sS, i64_w, i32_w]
       rfl
      refine pure_ (i := 24) (N := some 94) (v := ?_) (a' := ?_) (bl 54 33554431) rfl rfl (any_of HT_.out (by kernel_rfl)) (fun _ _ _ h => h) (Or.inl ⟨by rfl, ?_⟩) ?_ ?_
      rotate_left
      ·intro w'
       go_simp
       with_reducible rfl
      rotate_left
      ·simp only [Act.put, sA, sZ, sS, i64_w, i32_w]
       rfl
      refine pure_ (i := 25) (N := some 95) (v := ?_) (a' := ?_) (bl 54 67108863) rfl rfl (any_of HT_.out (by kernel_rfl)) (fun _ _ _ h => h) (Or.inl ⟨by rfl, ?_⟩) ?_ ?_
      rotate_left
      ·intro w'
       go_simp
       with_reducible rfl
      rotate_left
      ·simp only [Act.put, sA, sZ, sS, i64_w, i32_w]
       rfl
      refine pure_ (i := 26) (N := some 96) (v := ?_) (a' := ?_) (bl 54 134217727) rfl rfl (any_of HT_.out (by kernel_rfl)) (fun _ _ _ h => h) (Or.inl ⟨by rfl, ?_⟩) ?_ ?_
      rotate_left
      ·intro w'
       go_simp
       with_reducible rfl
      rotate_left
      ·simp only [Act.put, sA, sZ, sS, i64_w, i32_w]
       rfl
      refine pure_ (i := 27) (N := some 97) (v := ?_) (a' := ?_) (bl 54 268435455) rfl rfl (any_of HT_.out (by kernel_rfl)) (fun _ _ _ h => h) (Or.inl ⟨by rfl, ?_⟩) ?_ ?_
      rotate_left
      ·intro w'
       go_simp
       with_reducible rfl
      rotate_left
      ·simp only [Act.put, sA, sZ, sS, i64_w, i32_w]
       rfl
      refine pure_ (i := 28) (N := some 98) (v := ?_) (a' := ?_) (bl 54 536870911) rfl rfl (any_of HT_.out (by kernel_rfl)) (fun _ _ _ h => h) (Or.inl ⟨by rfl, ?_⟩) ?_ ?_
      rotate_left
      ·intro w'
       go_simp
       with_reducible rfl
      rotate_left
      ·simp only [Act.put, sA, sZ, sS, i64_w, i32_w]
       rfl
      refine pure_ (i := 31) (N := some 101) (v := ?_) (a' := ?_) (bl 54 2684354559) rfl rfl (any_of HT_.out (by kernel_rfl)) (fun _ _ _ h => h) (Or.inl ⟨by rfl, ?_⟩) ?_ ?_
      rotate_left
      ·intro w'
       go_simp
       with_reducible rfl
      rotate_left
      ·simp only [Act.put, sA, sZ, sS, i64_w, i32_w]
       rfl
      refine pure_ (i := 32) (N := some 102) (v := ?_) (a' := ?_) (bl 54 6979321855) rfl rfl (any_of HT_.out (by kernel_rfl)) (fun _ _ _ h => h) (Or.inl ⟨by rfl, ?_⟩) ?_ ?_
      rotate_left
      ·intro w'
       go_simp
       with_reducible rfl
      rotate_left
      ·simp only [Act.put, sA, sZ, sS, i64_w, i32_w]
       rfl
      refine pure_ (i := 33) (N := some 103) (v := ?_) (a' := ?_) (bl 54 15569256447) rfl rfl (any_of HT_.out (by kernel_rfl)) (fun _ _ _ h => h) (Or.inl ⟨by rfl, ?_⟩) ?_ ?_
      rotate_left
      ·intro w'
       go_simp
       with_reducible rfl
      rotate_left
      ·simp only [Act.put, sA, sZ, sS, i64_w, i32_w]
       rfl
      refine pure_ (i := 34) (N := some 104) (v := ?_) (a' := ?_) (bl 54 32749125631) rfl rfl (any_of HT_.out (by kernel_rfl)) (fun _ _ _ h => h) (Or.inl ⟨by rfl, ?_⟩) ?_ ?_
      rotate_left
      ·intro w'
       go_simp
       with_reducible rfl
      rotate_left
      ·simp only [Act.put, sA, sZ, sS, i64_w, i32_w]
       rfl
      refine take_ (i := 29) (N := some 99) (v := ?_) (a' := ?_) (bl 54 33285996543) rfl rfl (take_ofW HT_.out HW_.out (by kernel_rfl)) (fun _ _ _ h => h) (Or.inl ⟨by rfl, ?_⟩) hHeld ?_ ?_
      rotate_left
      ·rintro w' ⟨s0, s1, s2, s3, s4, s5, s6, s7, s8, s9, s10, s11, s12, s13, s14, s15⟩
       go_simp
       with_reducible rfl
      rotate_left
      ·simp only [Act.put, sA, sZ, sS, i64_w, i32_w]
       rfl
      refine pure_ (i := 30) (N := some 100) (v := ?_) (a' := ?_) (bl 54 34359738367) rfl rfl (any_of HT_.out (by kernel_rfl)) (fun _ _ _ h => h) (Or.inl ⟨by rfl, ?_⟩) ?_ ?_
      rotate_left
      ·intro w'
       go_simp
       with_reducible rfl
      rotate_left
      ·simp only [Act.put, sA, sZ, sS, i64_w, i32_w]
       rfl
      refine take_ (i := 35) (N := some 105) (v := ?_) (a' := ?_) (bl 54 68719476735) rfl rfl (take_ofW HT_.out HW_.out (by kernel_rfl)) (fun _ _ _ h => h) (Or.inl ⟨by rfl, ?_⟩) hHeld ?_ ?_
      rotate_left
      ·rintro w' ⟨s0, s1, s2, s3, s4, s5, s6, s7, s8, s9, s10, s11, s12, s13, s14, s15⟩
       go_simp
       with_reducible rfl
      rotate_left
      ·simp only [Act.put, sA, sZ, sS, i64_w, i32_w]
       rfl
      refine pure_ (i := 36) (N := some 106) (v := ?_) (a' := ?_) (bl 54 137438953471) rfl rfl (any_of HT_.out (by kernel_rfl)) (fun _ _ _ h => h) (Or.inl ⟨by rfl, ?_⟩) ?_ ?_
      rotate_left
      ·intro w'
       go_simp
       with_reducible rfl
      rotate_left
      ·simp only [Act.put, sA, sZ, sS, i64_w, i32_w]
       rfl
      refine pure_ (i := 37) (N := some 107) (v := ?_) (a' := ?_) (bl 54 274877906943) rfl rfl (any_of HT_.out (by kernel_rfl)) (fun _ _ _ h => h) (Or.inl ⟨by rfl, ?_⟩) ?_ ?_
      rotate_left
      ·intro w'
       go_simp
       with_reducible rfl
      rotate_left
      ·simp only [Act.put, sA, sZ, sS, i64_w, i32_w]
       rfl
      refine pure_ (i := 38) (N := some 108) (v := ?_) (a' := ?_) (bl 54 549755813887) rfl rfl (any_of HT_.out (by kernel_rfl)) (fun _ _ _ h => h) (Or.inl ⟨by rfl, ?_⟩) ?_ ?_
      rotate_left
      ·intro w'
       go_simp
       with_reducible rfl
      rotate_left
      ·simp only [Act.put, sA, sZ, sS, i64_w, i32_w]
       rfl
      refine pure_ (i := 39) (N := some 109) (v := ?_) (a' := ?_) (bl 54 1099511627775) rfl rfl (any_of HT_.out (by kernel_rfl)) (fun _ _ _ h => h) (Or.inl ⟨by rfl, ?_⟩) ?_ ?_
      rotate_left
      ·intro w'
       go_simp
       with_reducible rfl
      rotate_left
      ·simp only [Act.put, sA, sZ, sS, i64_w, i32_w]
       rfl
      refine pure_ (i := 40) (N := some 110) (v := ?_) (a' := ?_) (bl 54 2199023255551) rfl rfl (any_of HT_.out (by kernel_rfl)) (fun _ _ _ h => h) (Or.inl ⟨by rfl, ?_⟩) ?_ ?_
      rotate_left
      ·intro w'
       go_simp
       with_reducible rfl
      rotate_left
      ·simp only [Act.put, sA, sZ, sS, i64_w, i32_w]
       rfl
      refine pure_ (i := 41) (N := some 111) (v := ?_) (a' := ?_) (bl 54 4398046511103) rfl rfl (any_of HT_.out (by kernel_rfl)) (fun _ _ _ h => h) (Or.inl ⟨by rfl, ?_⟩) ?_ ?_
      rotate_left
      ·intro w'
       go_simp
       with_reducible rfl
      rotate_left
      ·simp only [Act.put, sA, sZ, sS, i64_w, i32_w]
       rfl
      refine pure_ (i := 42) (N := some 112) (v := ?_) (a' := ?_) (bl 54 8796093022207) rfl rfl (any_of HT_.out (by kernel_rfl)) (fun _ _ _ h => h) (Or.inl ⟨by rfl, ?_⟩) ?_ ?_
      rotate_left
      ·intro w'
       go_simp
       with_reducible rfl
      rotate_left
      ·simp only [Act.put, sA, sZ, sS, i64_w, i32_w]
       rfl
      refine pure_ (i := 43) (N := some 113) (v := ?_) (a' := ?_) (bl 54 17592186044415) rfl rfl (any_of HT_.out (by kernel_rfl)) (fun _ _ _ h => h) (Or.inl ⟨by rfl, ?_⟩) ?_ ?_
      rotate_left
      ·intro w'
       go_simp
       with_reducible rfl
      rotate_left
      ·simp only [Act.put, sA, sZ, sS, i64_w, i32_w]
       rfl
      refine pure_ (i := 46) (N := some 116) (v := ?_) (a' := ?_) (bl 54 87960930222079) rfl rfl (any_of HT_.out (by kernel_rfl)) (fun _ _ _ h => h) (Or.inl ⟨by rfl, ?_⟩) ?_ ?_
      rotate_left
      ·intro w'
       go_simp
       with_reducible rfl
      rotate_left
      ·simp only [Act.put, sA, sZ, sS, i64_w, i32_w]
       rfl
      refine pure_ (i := 47) (N := some 117) (v := ?_) (a' := ?_) (bl 54 228698418577407) rfl rfl (any_of HT_.out (by kernel_rfl)) (fun _ _ _ h => h) (Or.inl ⟨by rfl, ?_⟩) ?_ ?_
      rotate_left
      ·intro w'
       go_simp
       with_reducible rfl
      rotate_left
      ·simp only [Act.put, sA, sZ, sS, i64_w, i32_w]
       rfl
      refine pure_ (i := 48) (N := some 118) (v := ?_) (a' := ?_) (bl 54 510173395288063) rfl rfl (any_of HT_.out (by kernel_rfl)) (fun _ _ _ h => h) (Or.inl ⟨by rfl, ?_⟩) ?_ ?_
      rotate_left
      ·intro w'
       go_simp
       with_reducible rfl
      rotate_left
      ·simp only [Act.put, sA, sZ, sS, i64_w, i32_w]
       rfl
      refine pure_ (i := 49) (N := some 119) (v := ?_) (a' := ?_) (bl 54 1073123348709375) rfl rfl (any_of HT_.out (by kernel_rfl)) (fun _ _ _ h => h) (Or.inl ⟨by rfl, ?_⟩) ?_ ?_
      rotate_left
      ·intro w'
       go_simp
       with_reducible rfl
      rotate_left
      ·simp only [Act.put, sA, sZ, sS, i64_w, i32_w]
       rfl
      refine take_ (i := 44) (N := some 114) (v := ?_) (a' := ?_) (bl 54 1090715534753791) rfl rfl (take_ofW HT_.out HW_.out (by kernel_rfl)) (fun _ _ _ h => h) (Or.inl ⟨by rfl, ?_⟩) hHeld ?_ ?_
      rotate_left
      ·rintro w' ⟨s0, s1, s2, s3, s4, s5, s6, s7, s8, s9, s10, s11, s12, s13, s14, s15⟩
       go_simp
       with_reducible rfl
      rotate_left
      ·simp only [Act.put, sA, sZ, sS, i64_w, i32_w]
       rfl
      refine pure_ (i := 45) (N := some 115) (v := ?_) (a' := ?_) (bl 54 1125899906842623) rfl rfl (any_of HT_.out (by kernel_rfl)) (fun _ _ _ h => h) (Or.inl ⟨by rfl, ?_⟩) ?_ ?_
      rotate_left
      ·intro w'
       go_simp
       with_reducible rfl
      rotate_left
      ·simp only [Act.put, sA, sZ, sS, i64_w, i32_w]
       rfl
      refine take_ (i := 50) (N := some 120) (v := ?_) (a' := ?_) (bl 54 2251799813685247) rfl rfl (take_ofW HT_.out HW_.out (by kernel_rfl)) (fun _ _ _ h => h) (Or.inl ⟨by rfl, ?_⟩) hHeld ?_ ?_
      rotate_left
      ·rintro w' ⟨s0, s1, s2, s3, s4, s5, s6, s7, s8, s9, s10, s11, s12, s13, s14, s15⟩
       go_simp
       with_reducible rfl
      rotate_left
      ·simp only [Act.put, sA, sZ, sS, i64_w, i32_w]
       rfl
      refine pure_ (i := 51) (N := some 121) (v := ?_) (a' := ?_) (bl 54 4503599627370495) rfl rfl (any_of HT_.out (by kernel_rfl)) (fun _ _ _ h => h) (Or.inl ⟨by rfl, ?_⟩) ?_ ?_
      rotate_left
      ·intro w'
       go_simp
       with_reducible rfl
      rotate_left
      ·simp only [Act.put, sA, sZ, sS, i64_w, i32_w]
       rfl
      refine pure_ (i := 52) (N := some 122) (v := ?_) (a' := ?_) (bl 54 9007199254740991) rfl rfl (any_of HT_.out (by kernel_rfl)) (fun _ _ _ h => h) (Or.inl ⟨by rfl, ?_⟩) ?_ ?_
      rotate_left
      ·intro w'
       go_simp
       with_reducible rfl
      rotate_left
      ·simp only [Act.put, sA, sZ, sS, i64_w, i32_w]
       rfl
      refine pure_ (i := 53) (N := some 123) (v := ?_) (a' := ?_) (bl 54 18014398509481983) rfl rfl (any_of HT_.out (by kernel_rfl)) (fun _ _ _ h => h) (Or.inl ⟨by rfl, ?_⟩) ?_ ?_
      rotate_left
      ·intro w'
       go_simp
       with_reducible rfl
      rotate_left
      ·simp only [Act.put, sA, sZ, sS, i64_w, i32_w]
       rfl
      refine done_ (done_of HT_.out (by kernel_rfl)) ?_
      try go_wp2
      go_meet
      case rel => exact ⟨_, (((((rd_T52 t304 x9_2).vars).length : Int) != (((rd_T52 t322 x9_2).vars).length : Int))), (by first | rfl | (simp; done) | (simp [*]; done)), H', ⟨by have := HJ11.out; have := HK2.out; first | omega | exact Nat.le_refl _⟩, ⟨by (with_reducible repeat (first | apply Kd.S_alloc | apply Kd.S_drewN | apply Kd.S_drew)); exact HO_6.out⟩, ⟨by (with_reducible repeat (first | apply Kd.S_alloc | apply Kd.S_drewN | apply Kd.S_drew)); exact HO_7.out⟩, ⟨by (with_reducible repeat (first | apply Kd.S_alloc | apply Kd.S_drewN | apply Kd.S_drew)); exact HO_8.out⟩, ⟨by (with_reducible repeat (first | refine bN ?_ _ | refine bD ?_ | refine bA ?_ _)); exact BK301.out⟩, ⟨by repeat (first | (with_reducible first | exact HB.out | apply lA | apply lN | apply lD | refine lS ?_ GE301.out) | exact HB.out)⟩⟩
     case rest =>
      clear HC40
      try clear p2
      try clear c3
      try clear p3
      try clear q3
      try clear hx3
      try clear c4
      try clear c32
      try clear p32
      try clear q32
      try clear hx32
      try clear c42
      try clear c43
      try clear c44
      try clear c44b0
      try clear c44b1
      try clear c45
      try clear hx325_0
      try clear hx325_1
      try clear hx326_0
      try clear hx326_1
      try clear p325
      try clear p326
      try clear q325
      try clear q326
      obtain ⟨kq, x123_39, rfl, HA, HJ39, HO_6, HO_7, HO_8, BK301, HB⟩ := hcut
      cases kq with
      | zero => exact absurd HA.out (by simp [lambrequinlaw22_InterpMore.j2])
      | succ kj39 =>
       have H := HA.out
       clear HA
       simp only [lambrequinlaw22_InterpMore.j2] at H
       as_aux_lemma =>
       by_cases c59 : x123_39 = true
       ·subst c59
        have H1 : (some false) = some r := by rw [if_pos rfl] at H; exact H
        clear H
        have H := H1
        clear H1
        obtain rfl := Option.some.inj H
        go_wp2
        go_ret
        exact ⟨by first | rfl | (simp [errW_none, errW_some] <;> rfl) | (simp only [← hji7]; first | rfl | (simp [errW_none, errW_some] <;> rfl)) | (simp [*, errW_none, errW_some] <;> rfl), by repeat (first | (with_reducible first | exact HB.out | apply lA | apply lN | apply lD | refine lS ?_ GE301.out) | exact HB.out)⟩
       replace c59 := Bool.eq_false_iff.mpr c59
       subst c59
       have H1 : (lambrequinlaw22_InterpMore.l1 kj39 t302 t304 t307 t322 x9_2 0) = some r := by rw [if_neg (show ¬ (false = true) by decide)] at H; exact H
       clear H
       have H := H1
       clear H1
       have H' := am H
       clear H
       go_wp2
       go_loopg [10] kj39 (fun kq v10 w' => ∃ (x10_4 : Int), v10 = .int .i64 x10_4 ∧ Aside0 (lambrequinlaw22_InterpMore.l1 kq t302 t304 t307 t322 x9_2 x10_4 = some r) ∧ Aside0 (kq ≤ kj39) ∧ Aside0 (Kd.S k52 52 w' w.heap.size (fun k_ => some k_ ≠ (v308 : Value).ownBlock ∧ some k_ ≠ (v323 : Value).ownBlock) (.slice Ao41 t304.length co41) t304) ∧ Aside0 (Kd.S k52 52 w' w.heap.size (fun k_ => some k_ ≠ ((.slice Ao41 t304.length co41) : Value).ownBlock ∧ some k_ ≠ (v323 : Value).ownBlock) v308 t307) ∧ Aside0 (Kd.S k52 52 w' w.heap.size (fun k_ => some k_ ≠ ((.slice Ao41 t304.length co41) : Value).ownBlock ∧ some k_ ≠ (v308 : Value).ownBlock) v323 t322) ∧ Aside0 (w'.heap[gb301]? = some (.cells #[(.slice A0_0 l0_0.length c0_0), (.slice A0_1 l0_1.length c0_1), (.slice A0_2 l0_2.length c0_2), .int .i64 a0_3] 43 (0, 0))) ∧ Aside0 (Below w.heap.size w w'))
       case atStart => exact ⟨(0), (by first | rfl | (simp; done) | (simp [*]; done)), H', ⟨Nat.le_refl _⟩, ⟨by (with_reducible repeat (first | apply Kd.S_alloc | apply Kd.S_drewN | apply Kd.S_drew)); exact HO_6.out⟩, ⟨by (with_reducible repeat (first | apply Kd.S_alloc | apply Kd.S_drewN | apply Kd.S_drew)); exact HO_7.out⟩, ⟨by (with_reducible repeat (first | apply Kd.S_alloc | apply Kd.S_drewN | apply Kd.S_drew)); exact HO_8.out⟩, ⟨by (with_reducible repeat (first | refine bN ?_ _ | refine bD ?_ | refine bA ?_ _)); exact BK301.out⟩, ⟨by repeat (first | (with_reducible first | exact HB.out | apply lA | apply lN | apply lD | refine lS ?_ GE301.out) | exact HB.out)⟩⟩
       case round =>
        clear H'
        try clear p2
        try clear c3
        try clear p3
        try clear q3
        try clear hx3
        try clear c4
        try clear c5
        try clear c32
        try clear p32
        try clear q32
        try clear hx32
        try clear c42
        try clear c43
        try clear c44
        try clear c44b0
        try clear c44b1
        try clear c45
        try clear c59
        try clear hx325_0
        try clear hx325_1
        try clear hx326_0
        try clear hx326_1
        try clear p2
        try clear p3
        try clear p32
        try clear p325
        try clear p326
        try clear q3
        try clear q32
        try clear q325
        try clear q326
        obtain ⟨x10_4, rfl, HA, HK4, HO_6, HO_7, HO_8, BK301, HB⟩ := hrel
        cases gk with
        | zero => exact absurd HA.out (by simp [lambrequinlaw22_InterpMore.l1])
        | succ k4 =>
         have H := HA.out
         clear HA
         simp only [lambrequinlaw22_InterpMore.l1] at H
         as_aux_lemma =>
         by_cases c60 : 0 ≤ x9_2
         rotate_left
         ·rw [if_neg c60] at H
          exact absurd H (by simp)
         rw [if_pos c60] at H
         have c60b0 : decide (0 ≤ x9_2) = true := decide_eq_true c60
         clear c60
         as_aux_lemma =>
         by_cases c61 : x9_2 < (t304.length : Int)
         rotate_left
         ·rw [if_neg c61] at H
          exact absurd H (by simp)
         rw [if_pos c61] at H
         have c61b0 : decide (x9_2 < (t304.length : Int)) = true := decide_eq_true c61
         clear c61
         as_aux_lemma =>
         by_cases c62 : x10_4 < (((rd_T52 t304 x9_2).vars).length : Int)
         rotate_left
         ·rw [if_neg c62] at H
          have c62b0 : decide (x10_4 < (((rd_T52 t304 x9_2).vars).length : Int)) = false := decide_eq_false c62
          clear c62
          have H' := am H
          clear H
          have p333 : 0 ≤ (x9_2 : Int) := of_decide_eq_true (by first | (with_reducible assumption) | assumption)
          have q333 : x9_2 < (t304.length : Int) := of_decide_eq_true (by first | (with_reducible assumption) | assumption)
          obtain ⟨ad333, A333_1, c333_1, e333, hx333_0, hx333_1, hl333_1, hi333_1⟩ := at_T52 (Kd.S_reads' HO_6.out).2.2 x9_2 p333 q333
          cases e333
          obtain ⟨ce333, hce333, hMe333, hcc333⟩ := Kd.S_get HO_6.out z52 x9_2 p333 (by first | exact q333 | exact of_decide_eq_true (by first | (with_reducible assumption) | assumption) | (have e_ := (Kd.S_reads' HO_6.out).1; omega))
          obtain ⟨ve333_1, rfl, ge333_1⟩ := k52_openM hMe333
          have hv333_1 := hcc333 1 _ rfl
          rw [add_field _ _ 1 (by omega)] at hv333_1
          replace hv333_1 := Option.some.inj (hv333_1.symm.trans hx333_1)
          rw [hv333_1] at ge333_1
          have HL333_1 := am (show Kd.R k54 54 _ _ _ _ ((rd_T52 t304 x9_2).vars) from ge333_1)
          clear hv333_1 ge333_1
          clear hcc333 hce333
          have HR333_1 := am hi333_1
          have HC333_1 := am hl333_1
          clear hi333_1 hl333_1
          replace p333 := eq_true p333
          replace q333 := eq_true q333
          go_wp2
          go_roundg k4
          case measure => have := HJ11.out; have := HK2.out; have := HJ39.out; have := HK4.out; omega
          case rel => exact ⟨(wrap64 (x9_2 + 1)), (by first | rfl | (simp; done) | (simp [*]; done)), H', ⟨by have := HJ11.out; have := HK2.out; have := HJ39.out; have := HK4.out; omega⟩, ⟨by (with_reducible repeat (first | apply Kd.S_alloc | apply Kd.S_drewN | apply Kd.S_drew)); exact HO_6.out⟩, ⟨by (with_reducible repeat (first | apply Kd.S_alloc | apply Kd.S_drewN | apply Kd.S_drew)); exact HO_7.out⟩, ⟨by (with_reducible repeat (first | apply Kd.S_alloc | apply Kd.S_drewN | apply Kd.S_drew)); exact HO_8.out⟩, ⟨by (with_reducible repeat (first | refine bN ?_ _ | refine bD ?_ | refine bA ?_ _)); exact BK301.out⟩, ⟨by repeat (first | (with_reducible first | exact HB.out | apply lA | apply lN | apply lD | refine lS ?_ GE301.out) | exact HB.out)⟩⟩
         rw [if_pos c62] at H
         have c62b0 : decide (x10_4 < (((rd_T52 t304 x9_2).vars).length : Int)) = true := decide_eq_true c62
         clear c62
         as_aux_lemma =>
         by_cases c63 : 0 ≤ x10_4
         rotate_left
         ·rw [if_neg c63] at H
          exact absurd H (by simp)
         rw [if_pos c63] at H
         have c63b0 : decide (0 ≤ x10_4) = true := decide_eq_true c63
         clear c63
         as_aux_lemma =>
         by_cases c64 : x9_2 < (t307.length : Int)
         rotate_left
         ·rw [if_neg c64] at H
          exact absurd H (by simp)
         rw [if_pos c64] at H
         have c64b0 : decide (x9_2 < (t307.length : Int)) = true := decide_eq_true c64
         clear c64
         as_aux_lemma =>
         by_cases c65 : x10_4 < (((rd_T52 t307 x9_2).vars).length : Int)
         rotate_left
         ·rw [if_neg c65] at H
          exact absurd H (by simp)
         rw [if_pos c65] at H
         have c65b0 : decide (x10_4 < (((rd_T52 t307 x9_2).vars).length : Int)) = true := decide_eq_true c65
         clear c65
         as_aux_lemma =>
         by_cases c66 : (!((((rd_T54 ((rd_T52 t304 x9_2).vars) x10_4).name).toList) == (((rd_T54 ((rd_T52 t307 x9_2).vars) x10_4).name).toList)) || (!(((rd_T54 ((rd_T52 t304 x9_2).vars) x10_4).n) == ((rd_T54 ((rd_T52 t307 x9_2).vars) x10_4).n)) || (!(((rd_T54 ((rd_T52 t304 x9_2).vars) x10_4).last) == ((rd_T54 ((rd_T52 t307 x9_2).vars) x10_4).last)) || (!(((rd_T54 ((rd_T52 t304 x9_2).vars) x10_4).taint) == ((rd_T54 ((rd_T52 t307 x9_2).vars) x10_4).taint)))))) = true
         ·rw [if_pos c66] at H
          have c66b0 : (!((((rd_T54 ((rd_T52 t304 x9_2).vars) x10_4).name).toList) == (((rd_T54 ((rd_T52 t307 x9_2).vars) x10_4).name).toList)) || (!(((rd_T54 ((rd_T52 t304 x9_2).vars) x10_4).n) == ((rd_T54 ((rd_T52 t307 x9_2).vars) x10_4).n)) || (!(((rd_T54 ((rd_T52 t304 x9_2).vars) x10_4).last) == ((rd_T54 ((rd_T52 t307 x9_2).vars) x10_4).last)) || (!(((rd_T54 ((rd_T52 t304 x9_2).vars) x10_4).taint) == ((rd_T54 ((rd_T52 t307 x9_2).vars) x10_4).taint)))))) = true := c66
          clear c66
          obtain rfl := Option.some.inj H
          have p333 : 0 ≤ (x9_2 : Int) := of_decide_eq_true (by first | (with_reducible assumption) | assumption)
          have q333 : x9_2 < (t304.length : Int) := of_decide_eq_true (by first | (with_reducible assumption) | assumption)
          obtain ⟨ad333, A333_1, c333_1, e333, hx333_0, hx333_1, hl333_1, hi333_1⟩ := at_T52 (Kd.S_reads' HO_6.out).2.2 x9_2 p333 q333
          cases e333
          obtain ⟨ce333, hce333, hMe333, hcc333⟩ := Kd.S_get HO_6.out z52 x9_2 p333 (by first | exact q333 | exact of_decide_eq_true (by first | (with_reducible assumption) | assumption) | (have e_ := (Kd.S_reads' HO_6.out).1; omega))
          obtain ⟨ve333_1, rfl, ge333_1⟩ := k52_openM hMe333
          have hv333_1 := hcc333 1 _ rfl
          rw [add_field _ _ 1 (by omega)] at hv333_1
          replace hv333_1 := Option.some.inj (hv333_1.symm.trans hx333_1)
          rw [hv333_1] at ge333_1
          have HL333_1 := am (show Kd.R k54 54 _ _ _ _ ((rd_T52 t304 x9_2).vars) from ge333_1)
          clear hv333_1 ge333_1
          clear hcc333 hce333
          have HR333_1 := am hi333_1
          have HC333_1 := am hl333_1
          clear hi333_1 hl333_1
          replace p333 := eq_true p333
          replace q333 := eq_true q333
          try go_wp2
          replace HO_6 := am (Kd.S_drew HO_6.out)
          replace HO_7 := am (Kd.S_drew HO_7.out)
          replace HO_8 := am (Kd.S_drew HO_8.out)
          replace HL333_1 := am (Kd.R_drew HL333_1.out)
          replace BK301 := am (blk_drew BK301.out)
          replace HR333_1 := am (Kd.C_drew HR333_1.out)
          replace HB := am (below_drew1 HB.out)
          have p334 : 0 ≤ (x9_2 : Int) := of_decide_eq_true (by first | (with_reducible assumption) | assumption)
          have q334 : x9_2 < (t304.length : Int) := of_decide_eq_true (by first | (with_reducible assumption) | assumption)
          obtain ⟨ad334, A334_1, c334_1, e334, hx334_0, hx334_1, hl334_1, hi334_1⟩ := at_T52 (Kd.S_reads' HO_6.out).2.2 x9_2 p334 q334
          obtain rfl : ad333 = ad334 := (by injection e334)
          obtain ⟨ce334, hce334, hMe334, hcc334⟩ := Kd.S_get HO_6.out z52 x9_2 p334 (by first | exact q334 | exact of_decide_eq_true (by first | (with_reducible assumption) | assumption) | (have e_ := (Kd.S_reads' HO_6.out).1; omega))
          obtain ⟨ve334_1, rfl, ge334_1⟩ := k52_openM hMe334
          have hv334_1 := hcc334 1 _ rfl
          rw [add_field _ _ 1 (by omega)] at hv334_1
          replace hv334_1 := Option.some.inj (hv334_1.symm.trans hx334_1)
          rw [hv334_1] at ge334_1
          have HL334_1 := am (show Kd.R k54 54 _ _ _ _ ((rd_T52 t304 x9_2).vars) from ge334_1)
          clear hv334_1 ge334_1
          clear hcc334 hce334
          have HR334_1 := am hi334_1
          have HC334_1 := am hl334_1
          clear hi334_1 hl334_1
          replace p334 := eq_true p334
          replace q334 := eq_true q334
          have p335 : 0 ≤ (x10_4 : Int) := of_decide_eq_true (by first | (with_reducible assumption) | assumption)
          have q335 : x10_4 < (((rd_T52 t304 x9_2).vars).length : Int) := of_decide_eq_true (by first | (with_reducible assumption) | assumption)
          obtain ⟨ad335, e335, hx335_0, hx335_1, hx335_2, hx335_3⟩ := at_T54 (by repeat (first | (with_reducible exact HR334_1.out) | (with_reducible refine Kd.C_alloc ?_ _) | (with_reducible refine Kd.C_drewN ?_ _) | (with_reducible refine Kd.C_drew ?_) | exact HR334_1.out)) x10_4 p335 q335
          cases e335
          replace p335 := eq_true p335
          replace q335 := eq_true q335
          obtain ⟨Ao68, co68, eo68⟩ := Kd.S_slice HO_7.out
          (first | subst eo68 | (injection eo68 with f1_ f2_ f3_; have f4_ := f1_.symm; have f5_ := f3_.symm; clear f1_ f2_ f3_; subst f4_; subst f5_))
          have p336 : 0 ≤ (x9_2 : Int) := of_decide_eq_true (by first | (with_reducible assumption) | assumption)
          have q336 : x9_2 < (t307.length : Int) := of_decide_eq_true (by first | (with_reducible assumption) | assumption)
          obtain ⟨ad336, A336_1, c336_1, e336, hx336_0, hx336_1, hl336_1, hi336_1⟩ := at_T52 (Kd.S_reads' HO_7.out).2.2 x9_2 p336 q336
          cases e336
          obtain ⟨ce336, hce336, hMe336, hcc336⟩ := Kd.S_get HO_7.out z52 x9_2 p336 (by first | exact q336 | exact of_decide_eq_true (by first | (with_reducible assumption) | assumption) | (have e_ := (Kd.S_reads' HO_7.out).1; omega))
          obtain ⟨ve336_1, rfl, ge336_1⟩ := k52_openM hMe336
          have hv336_1 := hcc336 1 _ rfl
          rw [add_field _ _ 1 (by omega)] at hv336_1
          replace hv336_1 := Option.some.inj (hv336_1.symm.trans hx336_1)
          rw [hv336_1] at ge336_1
          have HL336_1 := am (show Kd.R k54 54 _ _ _ _ ((rd_T52 t307 x9_2).vars) from ge336_1)
          clear hv336_1 ge336_1
          clear hcc336 hce336
          have HR336_1 := am hi336_1
          have HC336_1 := am hl336_1
          clear hi336_1 hl336_1
          replace p336 := eq_true p336
          replace q336 := eq_true q336
          have p337 : 0 ≤ (x10_4 : Int) := of_decide_eq_true (by first | (with_reducible assumption) | assumption)
          have q337 : x10_4 < (((rd_T52 t307 x9_2).vars).length : Int) := of_decide_eq_true (by first | (with_reducible assumption) | assumption)
          obtain ⟨ad337, e337, hx337_0, hx337_1, hx337_2, hx337_3⟩ := at_T54 (by repeat (first | (with_reducible exact HR336_1.out) | (with_reducible refine Kd.C_alloc ?_ _) | (with_reducible refine Kd.C_drewN ?_ _) | (with_reducible refine Kd.C_drew ?_) | exact HR336_1.out)) x10_4 p337 q337
          cases e337
          replace p337 := eq_true p337
          replace q337 := eq_true q337
          refine start_ (n := 36) (S := fun w' => w'.cell? (ad333.add ((x9_2).toNat * 2)) = some (.int .i64 ((rd_T52 t304 x9_2).place)) ∧ w'.cell? ⟨(ad333.add ((x9_2).toNat * 2)).block, (ad333.add ((x9_2).toNat * 2)).off + 1, none⟩ = some (.slice (some ad335) ((rd_T52 t304 x9_2).vars).length c334_1) ∧ w'.cell? (ad335.add ((x10_4).toNat * 4)) = some (.string ((rd_T54 ((rd_T52 t304 x9_2).vars) x10_4).name)) ∧ w'.cell? ⟨(ad335.add ((x10_4).toNat * 4)).block, (ad335.add ((x10_4).toNat * 4)).off + 1, none⟩ = some (.int .i64 ((rd_T54 ((rd_T52 t304 x9_2).vars) x10_4).n)) ∧ w'.cell? ⟨(ad335.add ((x10_4).toNat * 4)).block, (ad335.add ((x10_4).toNat * 4)).off + 2, none⟩ = some (.int .i64 ((rd_T54 ((rd_T52 t304 x9_2).vars) x10_4).last)) ∧ w'.cell? ⟨(ad335.add ((x10_4).toNat * 4)).block, (ad335.add ((x10_4).toNat * 4)).off + 3, none⟩ = some (.bool ((rd_T54 ((rd_T52 t304 x9_2).vars) x10_4).taint)) ∧ w'.cell? (ad336.add ((x9_2).toNat * 2)) = some (.int .i64 ((rd_T52 t307 x9_2).place)) ∧ w'.cell? ⟨(ad336.add ((x9_2).toNat * 2)).block, (ad336.add ((x9_2).toNat * 2)).off + 1, none⟩ = some (.slice (some ad337) ((rd_T52 t307 x9_2).vars).length c336_1) ∧ w'.cell? (ad337.add ((x10_4).toNat * 4)) = some (.string ((rd_T54 ((rd_T52 t307 x9_2).vars) x10_4).name)) ∧ w'.cell? ⟨(ad337.add ((x10_4).toNat * 4)).block, (ad337.add ((x10_4).toNat * 4)).off + 1, none⟩ = some (.int .i64 ((rd_T54 ((rd_T52 t307 x9_2).vars) x10_4).n)) ∧ w'.cell? ⟨(ad337.add ((x10_4).toNat * 4)).block, (ad337.add ((x10_4).toNat * 4)).off + 2, none⟩ = some (.int .i64 ((rd_T54 ((rd_T52 t307 x9_2).vars) x10_4).last)) ∧ w'.cell? ⟨(ad337.add ((x10_4).toNat * 4)).block, (ad337.add ((x10_4).toNat * 4)).off + 3, none⟩ = some (.bool ((rd_T54 ((rd_T52 t307 x9_2).vars) x10_4).taint))) (ds := []) (bl 36 0) (by kernel_rfl) rfl rfl ⟨hx334_0, hx334_1, hx335_0, hx335_1, hx335_2, hx335_3, hx336_0, hx336_1, hx337_0, hx337_1, hx337_2, hx337_3⟩ (fun hHeld => ?_); refine with_tabW lambrequinlaw22_InterpMore.tab17 lambrequinlaw22_InterpMore.bits17 (fun HT_ HW_ => ?_)
          generalize wr.drew = w67 at HO_6 HO_7 HO_8 HL333_1 BK301 HR333_1 HB HL334_1 HL336_1 HR334_1 HR336_1 hx334_0 hx334_1 hx335_0 hx335_1 hx335_2 hx335_3 hx336_0 hx336_1 hx337_0 hx337_1 hx337_2 hx337_3 hHeld ⊢
          refine pure_ (i := 0) (N := some 134) (v := ?_) (a' := ?_) (bl 36 1) rfl rfl (any_of HT_.out (by kernel_rfl)) (fun _ _ _ h => h) (Or.inl ⟨by rfl, ?_⟩) ?_ ?_
          rotate_left
          ·intro w'
           go_simp
           with_reducible rfl
          rotate_left
          ·simp only [Act.put, sA, sZ, sS, i64_w, i32_w]
           rfl
          refine pure_ (i := 1) (N := some 135) (v := ?_) (a' := ?_) (bl 36 3) rfl rfl (any_of HT_.out (by kernel_rfl)) (fun _ _ _ h => h) (Or.inl ⟨by rfl, ?_⟩) ?_ ?_
          rotate_left
          ·intro w'
           go_simp
           with_reducible rfl
          rotate_left
          ·simp only [Act.put, sA, sZ, sS, i64_w, i32_w]
           rfl
          refine pure_ (i := 2) (N := some 136) (v := ?_) (a' := ?_) (bl 36 7) rfl rfl (any_of HT_.out (by kernel_rfl)) (fun _ _ _ h => h) (Or.inl ⟨by rfl, ?_⟩) ?_ ?_
          rotate_left
          ·intro w'
           go_simp
           with_reducible rfl
          rotate_left
          ·simp only [Act.put, sA, sZ, sS, i64_w, i32_w]
           rfl
          refine pure_ (i := 3) (N := some 137) (v := ?_) (a' := ?_) (bl 36 15) rfl rfl (any_of HT_.out (by kernel_rfl)) (fun _ _ _ h => h) (Or.inl ⟨by rfl, ?_⟩) ?_ ?_
          rotate_left
          ·intro w'
           go_simp
           with_reducible rfl
          rotate_left
          ·simp only [Act.put, sA, sZ, sS, i64_w, i32_w]
           rfl
          refine pure_ (i := 5) (N := some 139) (v := ?_) (a' := ?_) (bl 36 47) rfl rfl (any_of HT_.out (by kernel_rfl)) (fun _ _ _ h => h) (Or.inl ⟨by rfl, ?_⟩) ?_ ?_
          rotate_left
          ·intro w'
           go_simp
           with_reducible rfl
          rotate_left
          ·simp only [Act.put, sA, sZ, sS, i64_w, i32_w]
           rfl
          refine pure_ (i := 8) (N := some 142) (v := ?_) (a' := ?_) (bl 36 303) rfl rfl (any_of HT_.out (by kernel_rfl)) (fun _ _ _ h => h) (Or.inl ⟨by rfl, ?_⟩) ?_ ?_
          rotate_left
          ·intro w'
           go_simp
           with_reducible rfl
          rotate_left
          ·simp only [Act.put, sA, sZ, sS, i64_w, i32_w]
           rfl
          refine pure_ (i := 9) (N := some 143) (v := ?_) (a' := ?_) (bl 36 815) rfl rfl (any_of HT_.out (by kernel_rfl)) (fun _ _ _ h => h) (Or.inl ⟨by rfl, ?_⟩) ?_ ?_
          rotate_left
          ·intro w'
           go_simp
           with_reducible rfl
          rotate_left
          ·simp only [Act.put, sA, sZ, sS, i64_w, i32_w]
           rfl
          refine pure_ (i := 10) (N := some 144) (v := ?_) (a' := ?_) (bl 36 1839) rfl rfl (any_of HT_.out (by kernel_rfl)) (fun _ _ _ h => h) (Or.inl ⟨by rfl, ?_⟩) ?_ ?_
          rotate_left
          ·intro w'
           go_simp
           with_reducible rfl
          rotate_left
          ·simp only [Act.put, sA, sZ, sS, i64_w, i32_w]
           rfl
          refine pure_ (i := 11) (N := some 145) (v := ?_) (a' := ?_) (bl 36 3887) rfl rfl (any_of HT_.out (by kernel_rfl)) (fun _ _ _ h => h) (Or.inl ⟨by rfl, ?_⟩) ?_ ?_
          rotate_left
          ·intro w'
           go_simp
           with_reducible rfl
          rotate_left
          ·simp only [Act.put, sA, sZ, sS, i64_w, i32_w]
           rfl
          refine pure_ (i := 13) (N := some 147) (v := ?_) (a' := ?_) (bl 36 12079) rfl rfl (any_of HT_.out (by kernel_rfl)) (fun _ _ _ h => h) (Or.inl ⟨by rfl, ?_⟩) ?_ ?_
          rotate_left
          ·intro w'
           go_simp
           with_reducible rfl
          rotate_left
          ·simp only [Act.put, sA, sZ, sS, i64_w, i32_w]
           rfl
          refine take_ (i := 4) (N := some 138) (v := ?_) (a' := ?_) (bl 36 12095) rfl rfl (take_ofW HT_.out HW_.out (by kernel_rfl)) (fun _ _ _ h => h) (Or.inl ⟨by rfl, ?_⟩) hHeld ?_ ?_
          rotate_left
          ·rintro w' ⟨s0, s1, s2, s3, s4, s5, s6, s7, s8, s9, s10, s11⟩
           go_simp
           with_reducible rfl
          rotate_left
          ·simp only [Act.put, sA, sZ, sS, i64_w, i32_w]
           rfl
          refine pure_ (i := 6) (N := some 140) (v := ?_) (a' := ?_) (bl 36 12159) rfl rfl (any_of HT_.out (by kernel_rfl)) (fun _ _ _ h => h) (Or.inl ⟨by rfl, ?_⟩) ?_ ?_
          rotate_left
          ·intro w'
           go_simp
           with_reducible rfl
          rotate_left
          ·simp only [Act.put, sA, sZ, sS, i64_w, i32_w]
           rfl
          refine take_ (i := 7) (N := some 141) (v := ?_) (a' := ?_) (bl 36 12287) rfl rfl (take_ofW HT_.out HW_.out (by kernel_rfl)) (fun _ _ _ h => h) (Or.inl ⟨by rfl, ?_⟩) hHeld ?_ ?_
          rotate_left
          ·rintro w' ⟨s0, s1, s2, s3, s4, s5, s6, s7, s8, s9, s10, s11⟩
           go_simp
           with_reducible rfl
          rotate_left
          ·simp only [Act.put, sA, sZ, sS, i64_w, i32_w]
           rfl
          refine take_ (i := 12) (N := some 146) (v := ?_) (a' := ?_) (bl 36 16383) rfl rfl (take_ofW HT_.out HW_.out (by kernel_rfl)) (fun _ _ _ h => h) (Or.inl ⟨by rfl, ?_⟩) hHeld ?_ ?_
          rotate_left
          ·rintro w' ⟨s0, s1, s2, s3, s4, s5, s6, s7, s8, s9, s10, s11⟩
           go_simp
           with_reducible rfl
          rotate_left
          ·simp only [Act.put, sA, sZ, sS, i64_w, i32_w]
           rfl
          refine pure_ (i := 14) (N := some 148) (v := ?_) (a' := ?_) (bl 36 32767) rfl rfl (any_of HT_.out (by kernel_rfl)) (fun _ _ _ h => h) (Or.inl ⟨by rfl, ?_⟩) ?_ ?_
          rotate_left
          ·intro w'
           go_simp
           with_reducible rfl
          rotate_left
          ·simp only [Act.put, sA, sZ, sS, i64_w, i32_w]
           rfl
          refine take_ (i := 15) (N := some 149) (v := ?_) (a' := ?_) (bl 36 65535) rfl rfl (take_ofW HT_.out HW_.out (by kernel_rfl)) (fun _ _ _ h => h) (Or.inl ⟨by rfl, ?_⟩) hHeld ?_ ?_
          rotate_left
          ·rintro w' ⟨s0, s1, s2, s3, s4, s5, s6, s7, s8, s9, s10, s11⟩
           go_simp
           with_reducible rfl
          rotate_left
          ·simp only [Act.put, sA, sZ, sS, i64_w, i32_w]
           rfl
          refine pure_ (i := 16) (N := some 150) (v := ?_) (a' := ?_) (bl 36 131071) rfl rfl (any_of HT_.out (by kernel_rfl)) (fun _ _ _ h => h) (Or.inl ⟨by rfl, ?_⟩) ?_ ?_
          rotate_left
          ·intro w'
           go_simp
           with_reducible rfl
          rotate_left
          ·simp only [Act.put, sA, sZ, sS, i64_w, i32_w]
           rfl
          refine pure_ (i := 17) (N := some 151) (v := ?_) (a' := ?_) (bl 36 262143) rfl rfl (any_of HT_.out (by kernel_rfl)) (fun _ _ _ h => h) (Or.inl ⟨by rfl, ?_⟩) ?_ ?_
          rotate_left
          ·intro w'
           go_simp
           with_reducible rfl
          rotate_left
          ·simp only [Act.put, sA, sZ, sS, i64_w, i32_w]
           rfl
          refine pure_ (i := 18) (N := some 152) (v := undef) (a' := ?_) (bl 36 524287) rfl rfl (any_of HT_.out (by kernel_rfl)) (fun _ _ _ h => h) (Or.inr ⟨by rfl, rfl⟩) ?_ ?_
          rotate_left
          ·simp only [Act.put, sA, sZ, sS, i64_w, i32_w]
           rfl
          refine pure_ (i := 19) (N := some 153) (v := undef) (a' := ?_) (bl 36 1048575) rfl rfl (any_of HT_.out (by kernel_rfl)) (fun _ _ _ h => h) (Or.inr ⟨by rfl, rfl⟩) ?_ ?_
          rotate_left
          ·simp only [Act.put, sA, sZ, sS, i64_w, i32_w]
           rfl
          refine pure_ (i := 20) (N := some 154) (v := undef) (a' := ?_) (bl 36 2097151) rfl rfl (any_of HT_.out (by kernel_rfl)) (fun _ _ _ h => h) (Or.inr ⟨by rfl, rfl⟩) ?_ ?_
          rotate_left
          ·simp only [Act.put, sA, sZ, sS, i64_w, i32_w]
           rfl
          refine pure_ (i := 21) (N := some 155) (v := undef) (a' := ?_) (bl 36 4194303) rfl rfl (any_of HT_.out (by kernel_rfl)) (fun _ _ _ h => h) (Or.inr ⟨by rfl, rfl⟩) ?_ ?_
          rotate_left
          ·simp only [Act.put, sA, sZ, sS, i64_w, i32_w]
           rfl
          refine pure_ (i := 22) (N := some 156) (v := undef) (a' := ?_) (bl 36 8388607) rfl rfl (any_of HT_.out (by kernel_rfl)) (fun _ _ _ h => h) (Or.inr ⟨by rfl, rfl⟩) ?_ ?_
          rotate_left
          ·simp only [Act.put, sA, sZ, sS, i64_w, i32_w]
           rfl
          refine pure_ (i := 23) (N := some 157) (v := undef) (a' := ?_) (bl 36 16777215) rfl rfl (any_of HT_.out (by kernel_rfl)) (fun _ _ _ h => h) (Or.inr ⟨by rfl, rfl⟩) ?_ ?_
          rotate_left
          ·simp only [Act.put, sA, sZ, sS, i64_w, i32_w]
           rfl
          refine pure_ (i := 24) (N := some 158) (v := undef) (a' := ?_) (bl 36 33554431) rfl rfl (any_of HT_.out (by kernel_rfl)) (fun _ _ _ h => h) (Or.inr ⟨by rfl, rfl⟩) ?_ ?_
          rotate_left
          ·simp only [Act.put, sA, sZ, sS, i64_w, i32_w]
           rfl
          refine pure_ (i := 25) (N := some 159) (v := undef) (a' := ?_) (bl 36 67108863) rfl rfl (any_of HT_.out (by kernel_rfl)) (fun _ _ _ h => h) (Or.inr ⟨by rfl, rfl⟩) ?_ ?_
          rotate_left
          ·simp only [Act.put, sA, sZ, sS, i64_w, i32_w]
           rfl
          refine pure_ (i := 26) (N := some 160) (v := undef) (a' := ?_) (bl 36 134217727) rfl rfl (any_of HT_.out (by kernel_rfl)) (fun _ _ _ h => h) (Or.inr ⟨by rfl, rfl⟩) ?_ ?_
          rotate_left
          ·simp only [Act.put, sA, sZ, sS, i64_w, i32_w]
           rfl
          refine pure_ (i := 27) (N := some 161) (v := undef) (a' := ?_) (bl 36 268435455) rfl rfl (any_of HT_.out (by kernel_rfl)) (fun _ _ _ h => h) (Or.inr ⟨by rfl, rfl⟩) ?_ ?_
          rotate_left
          ·simp only [Act.put, sA, sZ, sS, i64_w, i32_w]
           rfl
          refine pure_ (i := 28) (N := some 162) (v := undef) (a' := ?_) (bl 36 536870911) rfl rfl (any_of HT_.out (by kernel_rfl)) (fun _ _ _ h => h) (Or.inr ⟨by rfl, rfl⟩) ?_ ?_
          rotate_left
          ·simp only [Act.put, sA, sZ, sS, i64_w, i32_w]
           rfl
          refine pure_ (i := 29) (N := some 163) (v := undef) (a' := ?_) (bl 36 1073741823) rfl rfl (any_of HT_.out (by kernel_rfl)) (fun _ _ _ h => h) (Or.inr ⟨by rfl, rfl⟩) ?_ ?_
          rotate_left
          ·simp only [Act.put, sA, sZ, sS, i64_w, i32_w]
           rfl
          refine pure_ (i := 30) (N := some 164) (v := undef) (a' := ?_) (bl 36 2147483647) rfl rfl (any_of HT_.out (by kernel_rfl)) (fun _ _ _ h => h) (Or.inr ⟨by rfl, rfl⟩) ?_ ?_
          rotate_left
          ·simp only [Act.put, sA, sZ, sS, i64_w, i32_w]
           rfl
          refine pure_ (i := 31) (N := some 165) (v := undef) (a' := ?_) (bl 36 4294967295) rfl rfl (any_of HT_.out (by kernel_rfl)) (fun _ _ _ h => h) (Or.inr ⟨by rfl, rfl⟩) ?_ ?_
          rotate_left
          ·simp only [Act.put, sA, sZ, sS, i64_w, i32_w]
           rfl
          refine pure_ (i := 32) (N := some 166) (v := undef) (a' := ?_) (bl 36 8589934591) rfl rfl (any_of HT_.out (by kernel_rfl)) (fun _ _ _ h => h) (Or.inr ⟨by rfl, rfl⟩) ?_ ?_
          rotate_left
          ·simp only [Act.put, sA, sZ, sS, i64_w, i32_w]
           rfl
          refine pure_ (i := 33) (N := some 167) (v := undef) (a' := ?_) (bl 36 17179869183) rfl rfl (any_of HT_.out (by kernel_rfl)) (fun _ _ _ h => h) (Or.inr ⟨by rfl, rfl⟩) ?_ ?_
          rotate_left
          ·simp only [Act.put, sA, sZ, sS, i64_w, i32_w]
           rfl
          refine pure_ (i := 34) (N := some 168) (v := undef) (a' := ?_) (bl 36 34359738367) rfl rfl (any_of HT_.out (by kernel_rfl)) (fun _ _ _ h => h) (Or.inr ⟨by rfl, rfl⟩) ?_ ?_
          rotate_left
          ·simp only [Act.put, sA, sZ, sS, i64_w, i32_w]
           rfl
          refine pure_ (i := 35) (N := some 169) (v := ?_) (a' := ?_) (bl 36 68719476735) rfl rfl (any_of HT_.out (by kernel_rfl)) (fun _ _ _ h => h) (Or.inl ⟨by rfl, ?_⟩) ?_ ?_
          rotate_left
          ·intro w'
           go_simp
           with_reducible rfl
          rotate_left
          ·simp only [Act.put, sA, sZ, sS, i64_w, i32_w]
           rfl
          refine done_ (done_of HT_.out (by kernel_rfl)) ?_
          try go_wp2
          go_ret
          exact ⟨by first | rfl | (simp [errW_none, errW_some] <;> rfl) | (simp only [← hji7]; first | rfl | (simp [errW_none, errW_some] <;> rfl)) | (simp [*, errW_none, errW_some] <;> rfl), by repeat (first | (with_reducible first | exact HB.out | apply lA | apply lN | apply lD | refine lS ?_ GE301.out) | exact HB.out)⟩
         rw [if_neg c66] at H
         have c66b0 : (!((((rd_T54 ((rd_T52 t304 x9_2).vars) x10_4).name).toList) == (((rd_T54 ((rd_T52 t307 x9_2).vars) x10_4).name).toList)) || (!(((rd_T54 ((rd_T52 t304 x9_2).vars) x10_4).n) == ((rd_T54 ((rd_T52 t307 x9_2).vars) x10_4).n)) || (!(((rd_T54 ((rd_T52 t304 x9_2).vars) x10_4).last) == ((rd_T54 ((rd_T52 t307 x9_2).vars) x10_4).last)) || (!(((rd_T54 ((rd_T52 t304 x9_2).vars) x10_4).taint) == ((rd_T54 ((rd_T52 t307 x9_2).vars) x10_4).taint)))))) = false := by simpa using c66
         clear c66
         as_aux_lemma =>
         by_cases c69 : x9_2 < (t322.length : Int)
         rotate_left
         ·rw [if_neg c69] at H
          exact absurd H (by simp)
         rw [if_pos c69] at H
         have c69b0 : decide (x9_2 < (t322.length : Int)) = true := decide_eq_true c69
         clear c69
         as_aux_lemma =>
         by_cases c70 : x10_4 < (((rd_T52 t322 x9_2).vars).length : Int)
         rotate_left
         ·rw [if_neg c70] at H
          exact absurd H (by simp)
         rw [if_pos c70] at H
         have c70b0 : decide (x10_4 < (((rd_T52 t322 x9_2).vars).length : Int)) = true := decide_eq_true c70
         clear c70
         as_aux_lemma =>
         by_cases c71 : (!((((rd_T54 ((rd_T52 t304 x9_2).vars) x10_4).name).toList) == (((rd_T54 ((rd_T52 t322 x9_2).vars) x10_4).name).toList)) || (!(((rd_T54 ((rd_T52 t304 x9_2).vars) x10_4).n) == ((rd_T54 ((rd_T52 t322 x9_2).vars) x10_4).n)) || (!(((rd_T54 ((rd_T52 t304 x9_2).vars) x10_4).last) == ((rd_T54 ((rd_T52 t322 x9_2).vars) x10_4).last)) || (!(((rd_T54 ((rd_T52 t304 x9_2).vars) x10_4).taint) == ((rd_T54 ((rd_T52 t322 x9_2).vars) x10_4).taint)))))) = true
         ·rw [if_pos c71] at H
          have c71b0 : (!((((rd_T54 ((rd_T52 t304 x9_2).vars) x10_4).name).toList) == (((rd_T54 ((rd_T52 t322 x9_2).vars) x10_4).name).toList)) || (!(((rd_T54 ((rd_T52 t304 x9_2).vars) x10_4).n) == ((rd_T54 ((rd_T52 t322 x9_2).vars) x10_4).n)) || (!(((rd_T54 ((rd_T52 t304 x9_2).vars) x10_4).last) == ((rd_T54 ((rd_T52 t322 x9_2).vars) x10_4).last)) || (!(((rd_T54 ((rd_T52 t304 x9_2).vars) x10_4).taint) == ((rd_T54 ((rd_T52 t322 x9_2).vars) x10_4).taint)))))) = true := c71
          clear c71
          obtain rfl := Option.some.inj H
          have p333 : 0 ≤ (x9_2 : Int) := of_decide_eq_true (by first | (with_reducible assumption) | assumption)
          have q333 : x9_2 < (t304.length : Int) := of_decide_eq_true (by first | (with_reducible assumption) | assumption)
          obtain ⟨ad333, A333_1, c333_1, e333, hx333_0, hx333_1, hl333_1, hi333_1⟩ := at_T52 (Kd.S_reads' HO_6.out).2.2 x9_2 p333 q333
          cases e333
          obtain ⟨ce333, hce333, hMe333, hcc333⟩ := Kd.S_get HO_6.out z52 x9_2 p333 (by first | exact q333 | exact of_decide_eq_true (by first | (with_reducible assumption) | assumption) | (have e_ := (Kd.S_reads' HO_6.out).1; omega))
          obtain ⟨ve333_1, rfl, ge333_1⟩ := k52_openM hMe333
          have hv333_1 := hcc333 1 _ rfl
          rw [add_field _ _ 1 (by omega)] at hv333_1
          replace hv333_1 := Option.some.inj (hv333_1.symm.trans hx333_1)
          rw [hv333_1] at ge333_1
          have HL333_1 := am (show Kd.R k54 54 _ _ _ _ ((rd_T52 t304 x9_2).vars) from ge333_1)
          clear hv333_1 ge333_1
          clear hcc333 hce333
          have HR333_1 := am hi333_1
          have HC333_1 := am hl333_1
          clear hi333_1 hl333_1
          replace p333 := eq_true p333
          replace q333 := eq_true q333
          try go_wp2
          replace HO_6 := am (Kd.S_drew HO_6.out)
          replace HO_7 := am (Kd.S_drew HO_7.out)
          replace HO_8 := am (Kd.S_drew HO_8.out)
          replace HL333_1 := am (Kd.R_drew HL333_1.out)
          replace BK301 := am (blk_drew BK301.out)
          replace HR333_1 := am (Kd.C_drew HR333_1.out)
          replace HB := am (below_drew1 HB.out)
          have p334 : 0 ≤ (x9_2 : Int) := of_decide_eq_true (by first | (with_reducible assumption) | assumption)
          have q334 : x9_2 < (t304.length : Int) := of_decide_eq_true (by first | (with_reducible assumption) | assumption)
          obtain ⟨ad334, A334_1, c334_1, e334, hx334_0, hx334_1, hl334_1, hi334_1⟩ := at_T52 (Kd.S_reads' HO_6.out).2.2 x9_2 p334 q334
          obtain rfl : ad333 = ad334 := (by injection e334)
          obtain ⟨ce334, hce334, hMe334, hcc334⟩ := Kd.S_get HO_6.out z52 x9_2 p334 (by first | exact q334 | exact of_decide_eq_true (by first | (with_reducible assumption) | assumption) | (have e_ := (Kd.S_reads' HO_6.out).1; omega))
          obtain ⟨ve334_1, rfl, ge334_1⟩ := k52_openM hMe334
          have hv334_1 := hcc334 1 _ rfl
          rw [add_field _ _ 1 (by omega)] at hv334_1
          replace hv334_1 := Option.some.inj (hv334_1.symm.trans hx334_1)
          rw [hv334_1] at ge334_1
          have HL334_1 := am (show Kd.R k54 54 _ _ _ _ ((rd_T52 t304 x9_2).vars) from ge334_1)
          clear hv334_1 ge334_1
          clear hcc334 hce334
          have HR334_1 := am hi334_1
          have HC334_1 := am hl334_1
          clear hi334_1 hl334_1
          replace p334 := eq_true p334
          replace q334 := eq_true q334
          have p335 : 0 ≤ (x10_4 : Int) := of_decide_eq_true (by first | (with_reducible assumption) | assumption)
          have q335 : x10_4 < (((rd_T52 t304 x9_2).vars).length : Int) := of_decide_eq_true (by first | (with_reducible assumption) | assumption)
          obtain ⟨ad335, e335, hx335_0, hx335_1, hx335_2, hx335_3⟩ := at_T54 (by repeat (first | (with_reducible exact HR334_1.out) | (with_reducible refine Kd.C_alloc ?_ _) | (with_reducible refine Kd.C_drewN ?_ _) | (with_reducible refine Kd.C_drew ?_) | exact HR334_1.out)) x10_4 p335 q335
          cases e335
          replace p335 := eq_true p335
          replace q335 := eq_true q335
          obtain ⟨Ao73, co73, eo73⟩ := Kd.S_slice HO_7.out
          (first | subst eo73 | (injection eo73 with f1_ f2_ f3_; have f4_ := f1_.symm; have f5_ := f3_.symm; clear f1_ f2_ f3_; subst f4_; subst f5_))
          have p336 : 0 ≤ (x9_2 : Int) := of_decide_eq_true (by first | (with_reducible assumption) | assumption)
          have q336 : x9_2 < (t307.length : Int) := of_decide_eq_true (by first | (with_reducible assumption) | assumption)
          obtain ⟨ad336, A336_1, c336_1, e336, hx336_0, hx336_1, hl336_1, hi336_1⟩ := at_T52 (Kd.S_reads' HO_7.out).2.2 x9_2 p336 q336
          cases e336
          obtain ⟨ce336, hce336, hMe336, hcc336⟩ := Kd.S_get HO_7.out z52 x9_2 p336 (by first | exact q336 | exact of_decide_eq_true (by first | (with_reducible assumption) | assumption) | (have e_ := (Kd.S_reads' HO_7.out).1; omega))
          obtain ⟨ve336_1, rfl, ge336_1⟩ := k52_openM hMe336
          have hv336_1 := hcc336 1 _ rfl
          rw [add_field _ _ 1 (by omega)] at hv336_1
          replace hv336_1 := Option.some.inj (hv336_1.symm.trans hx336_1)
          rw [hv336_1] at ge336_1
          have HL336_1 := am (show Kd.R k54 54 _ _ _ _ ((rd_T52 t307 x9_2).vars) from ge336_1)
          clear hv336_1 ge336_1
          clear hcc336 hce336
          have HR336_1 := am hi336_1
          have HC336_1 := am hl336_1
          clear hi336_1 hl336_1
          replace p336 := eq_true p336
          replace q336 := eq_true q336
          have p337 : 0 ≤ (x10_4 : Int) := of_decide_eq_true (by first | (with_reducible assumption) | assumption)
          have q337 : x10_4 < (((rd_T52 t307 x9_2).vars).length : Int) := of_decide_eq_true (by first | (with_reducible assumption) | assumption)
          obtain ⟨ad337, e337, hx337_0, hx337_1, hx337_2, hx337_3⟩ := at_T54 (by repeat (first | (with_reducible exact HR336_1.out) | (with_reducible refine Kd.C_alloc ?_ _) | (with_reducible refine Kd.C_drewN ?_ _) | (with_reducible refine Kd.C_drew ?_) | exact HR336_1.out)) x10_4 p337 q337
          cases e337
          replace p337 := eq_true p337
          replace q337 := eq_true q337
          have p338 : 0 ≤ (x9_2 : Int) := of_decide_eq_true (by first | (with_reducible assumption) | assumption)
          have q338 : x9_2 < (t304.length : Int) := of_decide_eq_true (by first | (with_reducible assumption) | assumption)
          obtain ⟨ad338, A338_1, c338_1, e338, hx338_0, hx338_1, hl338_1, hi338_1⟩ := at_T52 (Kd.S_reads' HO_6.out).2.2 x9_2 p338 q338
          obtain rfl : ad333 = ad338 := (by injection e338)
          obtain ⟨ce338, hce338, hMe338, hcc338⟩ := Kd.S_get HO_6.out z52 x9_2 p338 (by first | exact q338 | exact of_decide_eq_true (by first | (with_reducible assumption) | assumption) | (have e_ := (Kd.S_reads' HO_6.out).1; omega))
          obtain ⟨ve338_1, rfl, ge338_1⟩ := k52_openM hMe338
          have hv338_1 := hcc338 1 _ rfl
          rw [add_field _ _ 1 (by omega)] at hv338_1
          replace hv338_1 := Option.some.inj (hv338_1.symm.trans hx338_1)
          rw [hv338_1] at ge338_1
          have HL338_1 := am (show Kd.R k54 54 _ _ _ _ ((rd_T52 t304 x9_2).vars) from ge338_1)
          clear hv338_1 ge338_1
          clear hcc338 hce338
          have HR338_1 := am hi338_1
          have HC338_1 := am hl338_1
          clear hi338_1 hl338_1
          replace p338 := eq_true p338
          replace q338 := eq_true q338
          have ea_ := Option.some.inj (hx334_1.symm.trans hx338_1)
          injection ea_ with ea_ en_ ec_
          subst ea_
          subst ec_
          clear en_
          have p339 : 0 ≤ (x10_4 : Int) := of_decide_eq_true (by first | (with_reducible assumption) | assumption)
          have q339 : x10_4 < (((rd_T52 t304 x9_2).vars).length : Int) := of_decide_eq_true (by first | (with_reducible assumption) | assumption)
          obtain ⟨ad339, e339, hx339_0, hx339_1, hx339_2, hx339_3⟩ := at_T54 (by repeat (first | (with_reducible exact HR338_1.out) | (with_reducible refine Kd.C_alloc ?_ _) | (with_reducible refine Kd.C_drewN ?_ _) | (with_reducible refine Kd.C_drew ?_) | exact HR338_1.out)) x10_4 p339 q339
          obtain rfl : ad335 = ad339 := (by injection e339)
          replace p339 := eq_true p339
          replace q339 := eq_true q339
          obtain ⟨Ao74, co74, eo74⟩ := Kd.S_slice HO_8.out
          (first | subst eo74 | (injection eo74 with f1_ f2_ f3_; have f4_ := f1_.symm; have f5_ := f3_.symm; clear f1_ f2_ f3_; subst f4_; subst f5_))
          have p340 : 0 ≤ (x9_2 : Int) := of_decide_eq_true (by first | (with_reducible assumption) | assumption)
          have q340 : x9_2 < (t322.length : Int) := of_decide_eq_true (by first | (with_reducible assumption) | assumption)
          obtain ⟨ad340, A340_1, c340_1, e340, hx340_0, hx340_1, hl340_1, hi340_1⟩ := at_T52 (Kd.S_reads' HO_8.out).2.2 x9_2 p340 q340
          cases e340
          obtain ⟨ce340, hce340, hMe340, hcc340⟩ := Kd.S_get HO_8.out z52 x9_2 p340 (by first | exact q340 | exact of_decide_eq_true (by first | (with_reducible assumption) | assumption) | (have e_ := (Kd.S_reads' HO_8.out).1; omega))
          obtain ⟨ve340_1, rfl, ge340_1⟩ := k52_openM hMe340
          have hv340_1 := hcc340 1 _ rfl
          rw [add_field _ _ 1 (by omega)] at hv340_1
          replace hv340_1 := Option.some.inj (hv340_1.symm.trans hx340_1)
          rw [hv340_1] at ge340_1
          have HL340_1 := am (show Kd.R k54 54 _ _ _ _ ((rd_T52 t322 x9_2).vars) from ge340_1)
          clear hv340_1 ge340_1
          clear hcc340 hce340
          have HR340_1 := am hi340_1
          have HC340_1 := am hl340_1
          clear hi340_1 hl340_1
          replace p340 := eq_true p340
          replace q340 := eq_true q340
          have p341 : 0 ≤ (x10_4 : Int) := of_decide_eq_true (by first | (with_reducible assumption) | assumption)
          have q341 : x10_4 < (((rd_T52 t322 x9_2).vars).length : Int) := of_decide_eq_true (by first | (with_reducible assumption) | assumption)
          obtain ⟨ad341, e341, hx341_0, hx341_1, hx341_2, hx341_3⟩ := at_T54 (by repeat (first | (with_reducible exact HR340_1.out) | (with_reducible refine Kd.C_alloc ?_ _) | (with_reducible refine Kd.C_drewN ?_ _) | (with_reducible refine Kd.C_drew ?_) | exact HR340_1.out)) x10_4 p341 q341
          cases e341
          replace p341 := eq_true p341
          replace q341 := eq_true q341
          refine start_ (n := 36) (S := fun w' => w'.cell? (ad333.add ((x9_2).toNat * 2)) = some (.int .i64 ((rd_T52 t304 x9_2).place)) ∧ w'.cell? ⟨(ad333.add ((x9_2).toNat * 2)).block, (ad333.add ((x9_2).toNat * 2)).off + 1, none⟩ = some (.slice (some ad335) ((rd_T52 t304 x9_2).vars).length c334_1) ∧ w'.cell? (ad335.add ((x10_4).toNat * 4)) = some (.string ((rd_T54 ((rd_T52 t304 x9_2).vars) x10_4).name)) ∧ w'.cell? ⟨(ad335.add ((x10_4).toNat * 4)).block, (ad335.add ((x10_4).toNat * 4)).off + 1, none⟩ = some (.int .i64 ((rd_T54 ((rd_T52 t304 x9_2).vars) x10_4).n)) ∧ w'.cell? ⟨(ad335.add ((x10_4).toNat * 4)).block, (ad335.add ((x10_4).toNat * 4)).off + 2, none⟩ = some (.int .i64 ((rd_T54 ((rd_T52 t304 x9_2).vars) x10_4).last)) ∧ w'.cell? ⟨(ad335.add ((x10_4).toNat * 4)).block, (ad335.add ((x10_4).toNat * 4)).off + 3, none⟩ = some (.bool ((rd_T54 ((rd_T52 t304 x9_2).vars) x10_4).taint)) ∧ w'.cell? (ad336.add ((x9_2).toNat * 2)) = some (.int .i64 ((rd_T52 t307 x9_2).place)) ∧ w'.cell? ⟨(ad336.add ((x9_2).toNat * 2)).block, (ad336.add ((x9_2).toNat * 2)).off + 1, none⟩ = some (.slice (some ad337) ((rd_T52 t307 x9_2).vars).length c336_1) ∧ w'.cell? (ad337.add ((x10_4).toNat * 4)) = some (.string ((rd_T54 ((rd_T52 t307 x9_2).vars) x10_4).name)) ∧ w'.cell? ⟨(ad337.add ((x10_4).toNat * 4)).block, (ad337.add ((x10_4).toNat * 4)).off + 1, none⟩ = some (.int .i64 ((rd_T54 ((rd_T52 t307 x9_2).vars) x10_4).n)) ∧ w'.cell? ⟨(ad337.add ((x10_4).toNat * 4)).block, (ad337.add ((x10_4).toNat * 4)).off + 2, none⟩ = some (.int .i64 ((rd_T54 ((rd_T52 t307 x9_2).vars) x10_4).last)) ∧ w'.cell? ⟨(ad337.add ((x10_4).toNat * 4)).block, (ad337.add ((x10_4).toNat * 4)).off + 3, none⟩ = some (.bool ((rd_T54 ((rd_T52 t307 x9_2).vars) x10_4).taint)) ∧ w'.cell? (ad333.add ((x9_2).toNat * 2)) = some (.int .i64 ((rd_T52 t304 x9_2).place)) ∧ w'.cell? ⟨(ad333.add ((x9_2).toNat * 2)).block, (ad333.add ((x9_2).toNat * 2)).off + 1, none⟩ = some (.slice (some ad335) ((rd_T52 t304 x9_2).vars).length c334_1) ∧ w'.cell? (ad335.add ((x10_4).toNat * 4)) = some (.string ((rd_T54 ((rd_T52 t304 x9_2).vars) x10_4).name)) ∧ w'.cell? ⟨(ad335.add ((x10_4).toNat * 4)).block, (ad335.add ((x10_4).toNat * 4)).off + 1, none⟩ = some (.int .i64 ((rd_T54 ((rd_T52 t304 x9_2).vars) x10_4).n)) ∧ w'.cell? ⟨(ad335.add ((x10_4).toNat * 4)).block, (ad335.add ((x10_4).toNat * 4)).off + 2, none⟩ = some (.int .i64 ((rd_T54 ((rd_T52 t304 x9_2).vars) x10_4).last)) ∧ w'.cell? ⟨(ad335.add ((x10_4).toNat * 4)).block, (ad335.add ((x10_4).toNat * 4)).off + 3, none⟩ = some (.bool ((rd_T54 ((rd_T52 t304 x9_2).vars) x10_4).taint)) ∧ w'.cell? (ad340.add ((x9_2).toNat * 2)) = some (.int .i64 ((rd_T52 t322 x9_2).place)) ∧ w'.cell? ⟨(ad340.add ((x9_2).toNat * 2)).block, (ad340.add ((x9_2).toNat * 2)).off + 1, none⟩ = some (.slice (some ad341) ((rd_T52 t322 x9_2).vars).length c340_1) ∧ w'.cell? (ad341.add ((x10_4).toNat * 4)) = some (.string ((rd_T54 ((rd_T52 t322 x9_2).vars) x10_4).name)) ∧ w'.cell? ⟨(ad341.add ((x10_4).toNat * 4)).block, (ad341.add ((x10_4).toNat * 4)).off + 1, none⟩ = some (.int .i64 ((rd_T54 ((rd_T52 t322 x9_2).vars) x10_4).n)) ∧ w'.cell? ⟨(ad341.add ((x10_4).toNat * 4)).block, (ad341.add ((x10_4).toNat * 4)).off + 2, none⟩ = some (.int .i64 ((rd_T54 ((rd_T52 t322 x9_2).vars) x10_4).last)) ∧ w'.cell? ⟨(ad341.add ((x10_4).toNat * 4)).block, (ad341.add ((x10_4).toNat * 4)).off + 3, none⟩ = some (.bool ((rd_T54 ((rd_T52 t322 x9_2).vars) x10_4).taint))) (ds := []) (bl 36 0) (by kernel_rfl) rfl rfl ⟨hx334_0, hx334_1, hx335_0, hx335_1, hx335_2, hx335_3, hx336_0, hx336_1, hx337_0, hx337_1, hx337_2, hx337_3, hx338_0, hx338_1, hx339_0, hx339_1, hx339_2, hx339_3, hx340_0, hx340_1, hx341_0, hx341_1, hx341_2, hx341_3⟩ (fun hHeld => ?_); refine with_tabW lambrequinlaw22_InterpMore.tab17 lambrequinlaw22_InterpMore.bits17 (fun HT_ HW_ => ?_)
          generalize wr.drew = w72 at HO_6 HO_7 HO_8 HL333_1 BK301 HR333_1 HB HL334_1 HL336_1 HL338_1 HL340_1 HR334_1 HR336_1 HR338_1 HR340_1 hx334_0 hx334_1 hx335_0 hx335_1 hx335_2 hx335_3 hx336_0 hx336_1 hx337_0 hx337_1 hx337_2 hx337_3 hx338_0 hx338_1 hx339_0 hx339_1 hx339_2 hx339_3 hx340_0 hx340_1 hx341_0 hx341_1 hx341_2 hx341_3 hHeld ⊢
          refine pure_ (i := 0) (N := some 134) (v := ?_) (a' := ?_) (bl 36 1) rfl rfl (any_of HT_.out (by kernel_rfl)) (fun _ _ _ h => h) (Or.inl ⟨by rfl, ?_⟩) ?_ ?_
          rotate_left
          ·intro w'
           go_simp
           with_reducible rfl
          rotate_left
          ·simp only [Act.put, sA, sZ, sS, i64_w, i32_w]
           rfl
          refine pure_ (i := 1) (N := some 135) (v := ?_) (a' := ?_) (bl 36 3) rfl rfl (any_of HT_.out (by kernel_rfl)) (fun _ _ _ h => h) (Or.inl ⟨by rfl, ?_⟩) ?_ ?_
          rotate_left
          ·intro w'
           go_simp
           with_reducible rfl
          rotate_left
          ·simp only [Act.put, sA, sZ, sS, i64_w, i32_w]
           rfl
          refine pure_ (i := 2) (N := some 136) (v := ?_) (a' := ?_) (bl 36 7) rfl rfl (any_of HT_.out (by kernel_rfl)) (fun _ _ _ h => h) (Or.inl ⟨by rfl, ?_⟩) ?_ ?_
          rotate_left
          ·intro w'
           go_simp
           with_reducible rfl
          rotate_left
          ·simp only [Act.put, sA, sZ, sS, i64_w, i32_w]
           rfl
          refine pure_ (i := 3) (N := some 137) (v := ?_) (a' := ?_) (bl 36 15) rfl rfl (any_of HT_.out (by kernel_rfl)) (fun _ _ _ h => h) (Or.inl ⟨by rfl, ?_⟩) ?_ ?_
          rotate_left
          ·intro w'
           go_simp
           with_reducible rfl
          rotate_left
          ·simp only [Act.put, sA, sZ, sS, i64_w, i32_w]
           rfl
          refine pure_ (i := 5) (N := some 139) (v := ?_) (a' := ?_) (bl 36 47) rfl rfl (any_of HT_.out (by kernel_rfl)) (fun _ _ _ h => h) (Or.inl ⟨by rfl, ?_⟩) ?_ ?_
          rotate_left
          ·intro w'
           go_simp
           with_reducible rfl
          rotate_left
          ·simp only [Act.put, sA, sZ, sS, i64_w, i32_w]
           rfl
          refine pure_ (i := 8) (N := some 142) (v := ?_) (a' := ?_) (bl 36 303) rfl rfl (any_of HT_.out (by kernel_rfl)) (fun _ _ _ h => h) (Or.inl ⟨by rfl, ?_⟩) ?_ ?_
          rotate_left
          ·intro w'
           go_simp
           with_reducible rfl
          rotate_left
          ·simp only [Act.put, sA, sZ, sS, i64_w, i32_w]
           rfl
          refine pure_ (i := 9) (N := some 143) (v := ?_) (a' := ?_) (bl 36 815) rfl rfl (any_of HT_.out (by kernel_rfl)) (fun _ _ _ h => h) (Or.inl ⟨by rfl, ?_⟩) ?_ ?_
          rotate_left
          ·intro w'
           go_simp
           with_reducible rfl
          rotate_left
          ·simp only [Act.put, sA, sZ, sS, i64_w, i32_w]
           rfl
          refine pure_ (i := 10) (N := some 144) (v := ?_) (a' := ?_) (bl 36 1839) rfl rfl (any_of HT_.out (by kernel_rfl)) (fun _ _ _ h => h) (Or.inl ⟨by rfl, ?_⟩) ?_ ?_
          rotate_left
          ·intro w'
           go_simp
           with_reducible rfl
          rotate_left
          ·simp only [Act.put, sA, sZ, sS, i64_w, i32_w]
           rfl
          refine pure_ (i := 11) (N := some 145) (v := ?_) (a' := ?_) (bl 36 3887) rfl rfl (any_of HT_.out (by kernel_rfl)) (fun _ _ _ h => h) (Or.inl ⟨by rfl, ?_⟩) ?_ ?_
          rotate_left
          ·intro w'
           go_simp
           with_reducible rfl
          rotate_left
          ·simp only [Act.put, sA, sZ, sS, i64_w, i32_w]
           rfl
          refine pure_ (i := 13) (N := some 147) (v := ?_) (a' := ?_) (bl 36 12079) rfl rfl (any_of HT_.out (by kernel_rfl)) (fun _ _ _ h => h) (Or.inl ⟨by rfl, ?_⟩) ?_ ?_
          rotate_left
          ·intro w'
           go_simp
           with_reducible rfl
          rotate_left
          ·simp only [Act.put, sA, sZ, sS, i64_w, i32_w]
           rfl
          refine take_ (i := 4) (N := some 138) (v := ?_) (a' := ?_) (bl 36 12095) rfl rfl (take_ofW HT_.out HW_.out (by kernel_rfl)) (fun _ _ _ h => h) (Or.inl ⟨by rfl, ?_⟩) hHeld ?_ ?_
          rotate_left
          ·rintro w' ⟨s0, s1, s2, s3, s4, s5, s6, s7, s8, s9, s10, s11, s12, s13, s14, s15, s16, s17, s18, s19, s20, s21, s22, s23⟩
           go_simp
           with_reducible rfl
          rotate_left
          ·simp only [Act.put, sA, sZ, sS, i64_w, i32_w]
           rfl
          refine pure_ (i := 6) (N := some 140) (v := ?_) (a' := ?_) (bl 36 12159) rfl rfl (any_of HT_.out (by kernel_rfl)) (fun _ _ _ h => h) (Or.inl ⟨by rfl, ?_⟩) ?_ ?_
          rotate_left
          ·intro w'
           go_simp
           with_reducible rfl
          rotate_left
          ·simp only [Act.put, sA, sZ, sS, i64_w, i32_w]
           rfl
          refine take_ (i := 7) (N := some 141) (v := ?_) (a' := ?_) (bl 36 12287) rfl rfl (take_ofW HT_.out HW_.out (by kernel_rfl)) (fun _ _ _ h => h) (Or.inl ⟨by rfl, ?_⟩) hHeld ?_ ?_
          rotate_left
          ·rintro w' ⟨s0, s1, s2, s3, s4, s5, s6, s7, s8, s9, s10, s11, s12, s13, s14, s15, s16, s17, s18, s19, s20, s21, s22, s23⟩
           go_simp
           with_reducible rfl
          rotate_left
          ·simp only [Act.put, sA, sZ, sS, i64_w, i32_w]
           rfl
          refine take_ (i := 12) (N := some 146) (v := ?_) (a' := ?_) (bl 36 16383) rfl rfl (take_ofW HT_.out HW_.out (by kernel_rfl)) (fun _ _ _ h => h) (Or.inl ⟨by rfl, ?_⟩) hHeld ?_ ?_
          rotate_left
          ·rintro w' ⟨s0, s1, s2, s3, s4, s5, s6, s7, s8, s9, s10, s11, s12, s13, s14, s15, s16, s17, s18, s19, s20, s21, s22, s23⟩
           go_simp
           with_reducible rfl
          rotate_left
          ·simp only [Act.put, sA, sZ, sS, i64_w, i32_w]
           rfl
          refine pure_ (i := 14) (N := some 148) (v := ?_) (a' := ?_) (bl 36 32767) rfl rfl (any_of HT_.out (by kernel_rfl)) (fun _ _ _ h => h) (Or.inl ⟨by rfl, ?_⟩) ?_ ?_
          rotate_left
          ·intro w'
           go_simp
           with_reducible rfl
          rotate_left
          ·simp only [Act.put, sA, sZ, sS, i64_w, i32_w]
           rfl
          refine take_ (i := 15) (N := some 149) (v := ?_) (a' := ?_) (bl 36 65535) rfl rfl (take_ofW HT_.out HW_.out (by kernel_rfl)) (fun _ _ _ h => h) (Or.inl ⟨by rfl, ?_⟩) hHeld ?_ ?_
          rotate_left
          ·rintro w' ⟨s0, s1, s2, s3, s4, s5, s6, s7, s8, s9, s10, s11, s12, s13, s14, s15, s16, s17, s18, s19, s20, s21, s22, s23⟩
           go_simp
           with_reducible rfl
          rotate_left
          ·simp only [Act.put, sA, sZ, sS, i64_w, i32_w]
           rfl
          refine pure_ (i := 16) (N := some 150) (v := ?_) (a' := ?_) (bl 36 131071) rfl rfl (any_of HT_.out (by kernel_rfl)) (fun _ _ _ h => h) (Or.inl ⟨by rfl, ?_⟩) ?_ ?_
          rotate_left
          ·intro w'
           go_simp
           with_reducible rfl
          rotate_left
          ·simp only [Act.put, sA, sZ, sS, i64_w, i32_w]
           rfl
          refine pure_ (i := 17) (N := some 151) (v := ?_) (a' := ?_) (bl 36 262143) rfl rfl (any_of HT_.out (by kernel_rfl)) (fun _ _ _ h => h) (Or.inl ⟨by rfl, ?_⟩) ?_ ?_
          rotate_left
          ·intro w'
           go_simp
           with_reducible rfl
          rotate_left
          ·simp only [Act.put, sA, sZ, sS, i64_w, i32_w]
           rfl
          refine pure_ (i := 18) (N := some 152) (v := ?_) (a' := ?_) (bl 36 524287) rfl rfl (any_of HT_.out (by kernel_rfl)) (fun _ _ _ h => h) (Or.inl ⟨by rfl, ?_⟩) ?_ ?_
          rotate_left
          ·intro w'
           go_simp
           with_reducible rfl
          rotate_left
          ·simp only [Act.put, sA, sZ, sS, i64_w, i32_w]
           rfl
          refine pure_ (i := 19) (N := some 153) (v := ?_) (a' := ?_) (bl 36 1048575) rfl rfl (any_of HT_.out (by kernel_rfl)) (fun _ _ _ h => h) (Or.inl ⟨by rfl, ?_⟩) ?_ ?_
          rotate_left
          ·intro w'
           go_simp
           with_reducible rfl
          rotate_left
          ·simp only [Act.put, sA, sZ, sS, i64_w, i32_w]
           rfl
          refine pure_ (i := 20) (N := some 154) (v := ?_) (a' := ?_) (bl 36 2097151) rfl rfl (any_of HT_.out (by kernel_rfl)) (fun _ _ _ h => h) (Or.inl ⟨by rfl, ?_⟩) ?_ ?_
          rotate_left
          ·intro w'
           go_simp
           with_reducible rfl
          rotate_left
          ·simp only [Act.put, sA, sZ, sS, i64_w, i32_w]
           rfl
          refine pure_ (i := 21) (N := some 155) (v := ?_) (a' := ?_) (bl 36 4194303) rfl rfl (any_of HT_.out (by kernel_rfl)) (fun _ _ _ h => h) (Or.inl ⟨by rfl, ?_⟩) ?_ ?_
          rotate_left
          ·intro w'
           go_simp
           with_reducible rfl
          rotate_left
          ·simp only [Act.put, sA, sZ, sS, i64_w, i32_w]
           rfl
          refine pure_ (i := 23) (N := some 157) (v := ?_) (a' := ?_) (bl 36 12582911) rfl rfl (any_of HT_.out (by kernel_rfl)) (fun _ _ _ h => h) (Or.inl ⟨by rfl, ?_⟩) ?_ ?_
          rotate_left
          ·intro w'
           go_simp
           with_reducible rfl
          rotate_left
          ·simp only [Act.put, sA, sZ, sS, i64_w, i32_w]
           rfl
          refine pure_ (i := 26) (N := some 160) (v := ?_) (a' := ?_) (bl 36 79691775) rfl rfl (any_of HT_.out (by kernel_rfl)) (fun _ _ _ h => h) (Or.inl ⟨by rfl, ?_⟩) ?_ ?_
          rotate_left
          ·intro w'
           go_simp
           with_reducible rfl
          rotate_left
          ·simp only [Act.put, sA, sZ, sS, i64_w, i32_w]
           rfl
          refine pure_ (i := 27) (N := some 161) (v := ?_) (a' := ?_) (bl 36 213909503) rfl rfl (any_of HT_.out (by kernel_rfl)) (fun _ _ _ h => h) (Or.inl ⟨by rfl, ?_⟩) ?_ ?_
          rotate_left
          ·intro w'
           go_simp
           with_reducible rfl
          rotate_left
          ·simp only [Act.put, sA, sZ, sS, i64_w, i32_w]
           rfl
          refine pure_ (i := 28) (N := some 162) (v := ?_) (a' := ?_) (bl 36 482344959) rfl rfl (any_of HT_.out (by kernel_rfl)) (fun _ _ _ h => h) (Or.inl ⟨by rfl, ?_⟩) ?_ ?_
          rotate_left
          ·intro w'
           go_simp
           with_reducible rfl
          rotate_left
          ·simp only [Act.put, sA, sZ, sS, i64_w, i32_w]
           rfl
          refine pure_ (i := 29) (N := some 163) (v := ?_) (a' := ?_) (bl 36 1019215871) rfl rfl (any_of HT_.out (by kernel_rfl)) (fun _ _ _ h => h) (Or.inl ⟨by rfl, ?_⟩) ?_ ?_
          rotate_left
          ·intro w'
           go_simp
           with_reducible rfl
          rotate_left
          ·simp only [Act.put, sA, sZ, sS, i64_w, i32_w]
           rfl
          refine pure_ (i := 31) (N := some 165) (v := ?_) (a' := ?_) (bl 36 3166699519) rfl rfl (any_of HT_.out (by kernel_rfl)) (fun _ _ _ h => h) (Or.inl ⟨by rfl, ?_⟩) ?_ ?_
          rotate_left
          ·intro w'
           go_simp
           with_reducible rfl
          rotate_left
          ·simp only [Act.put, sA, sZ, sS, i64_w, i32_w]
           rfl
          refine take_ (i := 22) (N := some 156) (v := ?_) (a' := ?_) (bl 36 3170893823) rfl rfl (take_ofW HT_.out HW_.out (by kernel_rfl)) (fun _ _ _ h => h) (Or.inl ⟨by rfl, ?_⟩) hHeld ?_ ?_
          rotate_left
          ·rintro w' ⟨s0, s1, s2, s3, s4, s5, s6, s7, s8, s9, s10, s11, s12, s13, s14, s15, s16, s17, s18, s19, s20, s21, s22, s23⟩
           go_simp
           with_reducible rfl
          rotate_left
          ·simp only [Act.put, sA, sZ, sS, i64_w, i32_w]
           rfl
          refine pure_ (i := 24) (N := some 158) (v := ?_) (a' := ?_) (bl 36 3187671039) rfl rfl (any_of HT_.out (by kernel_rfl)) (fun _ _ _ h => h) (Or.inl ⟨by rfl, ?_⟩) ?_ ?_
          rotate_left
          ·intro w'
           go_simp
           with_reducible rfl
          rotate_left
          ·simp only [Act.put, sA, sZ, sS, i64_w, i32_w]
           rfl
          refine take_ (i := 25) (N := some 159) (v := ?_) (a' := ?_) (bl 36 3221225471) rfl rfl (take_ofW HT_.out HW_.out (by kernel_rfl)) (fun _ _ _ h => h) (Or.inl ⟨by rfl, ?_⟩) hHeld ?_ ?_
          rotate_left
          ·rintro w' ⟨s0, s1, s2, s3, s4, s5, s6, s7, s8, s9, s10, s11, s12, s13, s14, s15, s16, s17, s18, s19, s20, s21, s22, s23⟩
           go_simp
           with_reducible rfl
          rotate_left
          ·simp only [Act.put, sA, sZ, sS, i64_w, i32_w]
           rfl
          refine take_ (i := 30) (N := some 164) (v := ?_) (a' := ?_) (bl 36 4294967295) rfl rfl (take_ofW HT_.out HW_.out (by kernel_rfl)) (fun _ _ _ h => h) (Or.inl ⟨by rfl, ?_⟩) hHeld ?_ ?_
          rotate_left
          ·rintro w' ⟨s0, s1, s2, s3, s4, s5, s6, s7, s8, s9, s10, s11, s12, s13, s14, s15, s16, s17, s18, s19, s20, s21, s22, s23⟩
           go_simp
           with_reducible rfl
          rotate_left
          ·simp only [Act.put, sA, sZ, sS, i64_w, i32_w]
           rfl
          refine pure_ (i := 32) (N := some 166) (v := ?_) (a' := ?_) (bl 36 8589934591) rfl rfl (any_of HT_.out (by kernel_rfl)) (fun _ _ _ h => h) (Or.inl ⟨by rfl, ?_⟩) ?_ ?_
          rotate_left
          ·intro w'
           go_simp
           with_reducible rfl
          rotate_left
          ·simp only [Act.put, sA, sZ, sS, i64_w, i32_w]
           rfl
          refine take_ (i := 33) (N := some 167) (v := ?_) (a' := ?_) (bl 36 17179869183) rfl rfl (take_ofW HT_.out HW_.out (by kernel_rfl)) (fun _ _ _ h => h) (Or.inl ⟨by rfl, ?_⟩) hHeld ?_ ?_
          rotate_left
          ·rintro w' ⟨s0, s1, s2, s3, s4, s5, s6, s7, s8, s9, s10, s11, s12, s13, s14, s15, s16, s17, s18, s19, s20, s21, s22, s23⟩
           go_simp
           with_reducible rfl
          rotate_left
          ·simp only [Act.put, sA, sZ, sS, i64_w, i32_w]
           rfl
          refine pure_ (i := 34) (N := some 168) (v := ?_) (a' := ?_) (bl 36 34359738367) rfl rfl (any_of HT_.out (by kernel_rfl)) (fun _ _ _ h => h) (Or.inl ⟨by rfl, ?_⟩) ?_ ?_
          rotate_left
          ·intro w'
           go_simp
           with_reducible rfl
          rotate_left
          ·simp only [Act.put, sA, sZ, sS, i64_w, i32_w]
           rfl
          refine pure_ (i := 35) (N := some 169) (v := ?_) (a' := ?_) (bl 36 68719476735) rfl rfl (any_of HT_.out (by kernel_rfl)) (fun _ _ _ h => h) (Or.inl ⟨by rfl, ?_⟩) ?_ ?_
          rotate_left
          ·intro w'
           go_simp
           with_reducible rfl
          rotate_left
          ·simp only [Act.put, sA, sZ, sS, i64_w, i32_w]
           rfl
          refine done_ (done_of HT_.out (by kernel_rfl)) ?_
          try go_wp2
          go_ret
          exact ⟨by first | rfl | (simp [errW_none, errW_some] <;> rfl) | (simp only [← hji7]; first | rfl | (simp [errW_none, errW_some] <;> rfl)) | (simp [*, errW_none, errW_some] <;> rfl), by repeat (first | (with_reducible first | exact HB.out | apply lA | apply lN | apply lD | refine lS ?_ GE301.out) | exact HB.out)⟩
         rw [if_neg c71] at H
         have c71b0 : (!((((rd_T54 ((rd_T52 t304 x9_2).vars) x10_4).name).toList) == (((rd_T54 ((rd_T52 t322 x9_2).vars) x10_4).name).toList)) || (!(((rd_T54 ((rd_T52 t304 x9_2).vars) x10_4).n) == ((rd_T54 ((rd_T52 t322 x9_2).vars) x10_4).n)) || (!(((rd_T54 ((rd_T52 t304 x9_2).vars) x10_4).last) == ((rd_T54 ((rd_T52 t322 x9_2).vars) x10_4).last)) || (!(((rd_T54 ((rd_T52 t304 x9_2).vars) x10_4).taint) == ((rd_T54 ((rd_T52 t322 x9_2).vars) x10_4).taint)))))) = false := by simpa using c71
         clear c71
         have H' := am H
         clear H
         have p333 : 0 ≤ (x9_2 : Int) := of_decide_eq_true (by first | (with_reducible assumption) | assumption)
         have q333 : x9_2 < (t304.length : Int) := of_decide_eq_true (by first | (with_reducible assumption) | assumption)
         obtain ⟨ad333, A333_1, c333_1, e333, hx333_0, hx333_1, hl333_1, hi333_1⟩ := at_T52 (Kd.S_reads' HO_6.out).2.2 x9_2 p333 q333
         cases e333
         obtain ⟨ce333, hce333, hMe333, hcc333⟩ := Kd.S_get HO_6.out z52 x9_2 p333 (by first | exact q333 | exact of_decide_eq_true (by first | (with_reducible assumption) | assumption) | (have e_ := (Kd.S_reads' HO_6.out).1; omega))
         obtain ⟨ve333_1, rfl, ge333_1⟩ := k52_openM hMe333
         have hv333_1 := hcc333 1 _ rfl
         rw [add_field _ _ 1 (by omega)] at hv333_1
         replace hv333_1 := Option.some.inj (hv333_1.symm.trans hx333_1)
         rw [hv333_1] at ge333_1
         have HL333_1 := am (show Kd.R k54 54 _ _ _ _ ((rd_T52 t304 x9_2).vars) from ge333_1)
         clear hv333_1 ge333_1
         clear hcc333 hce333
         have HR333_1 := am hi333_1
         have HC333_1 := am hl333_1
         clear hi333_1 hl333_1
         replace p333 := eq_true p333
         replace q333 := eq_true q333
         try go_wp2
         replace HO_6 := am (Kd.S_drew HO_6.out)
         replace HO_7 := am (Kd.S_drew HO_7.out)
         replace HO_8 := am (Kd.S_drew HO_8.out)
         replace HL333_1 := am (Kd.R_drew HL333_1.out)
         replace BK301 := am (blk_drew BK301.out)
         replace HR333_1 := am (Kd.C_drew HR333_1.out)
         replace HB := am (below_drew1 HB.out)
         have p334 : 0 ≤ (x9_2 : Int) := of_decide_eq_true (by first | (with_reducible assumption) | assumption)
         have q334 : x9_2 < (t304.length : Int) := of_decide_eq_true (by first | (with_reducible assumption) | assumption)
         obtain ⟨ad334, A334_1, c334_1, e334, hx334_0, hx334_1, hl334_1, hi334_1⟩ := at_T52 (Kd.S_reads' HO_6.out).2.2 x9_2 p334 q334
         obtain rfl : ad333 = ad334 := (by injection e334)
         obtain ⟨ce334, hce334, hMe334, hcc334⟩ := Kd.S_get HO_6.out z52 x9_2 p334 (by first | exact q334 | exact of_decide_eq_true (by first | (with_reducible assumption) | assumption) | (have e_ := (Kd.S_reads' HO_6.out).1; omega))
         obtain ⟨ve334_1, rfl, ge334_1⟩ := k52_openM hMe334
         have hv334_1 := hcc334 1 _ rfl
         rw [add_field _ _ 1 (by omega)] at hv334_1
         replace hv334_1 := Option.some.inj (hv334_1.symm.trans hx334_1)
         rw [hv334_1] at ge334_1
         have HL334_1 := am (show Kd.R k54 54 _ _ _ _ ((rd_T52 t304 x9_2).vars) from ge334_1)
         clear hv334_1 ge334_1
         clear hcc334 hce334
         have HR334_1 := am hi334_1
         have HC334_1 := am hl334_1
         clear hi334_1 hl334_1
         replace p334 := eq_true p334
         replace q334 := eq_true q334
         have p335 : 0 ≤ (x10_4 : Int) := of_decide_eq_true (by first | (with_reducible assumption) | assumption)
         have q335 : x10_4 < (((rd_T52 t304 x9_2).vars).length : Int) := of_decide_eq_true (by first | (with_reducible assumption) | assumption)
         obtain ⟨ad335, e335, hx335_0, hx335_1, hx335_2, hx335_3⟩ := at_T54 (by repeat (first | (with_reducible exact HR334_1.out) | (with_reducible refine Kd.C_alloc ?_ _) | (with_reducible refine Kd.C_drewN ?_ _) | (with_reducible refine Kd.C_drew ?_) | exact HR334_1.out)) x10_4 p335 q335
         cases e335
         replace p335 := eq_true p335
         replace q335 := eq_true q335
         obtain ⟨Ao76, co76, eo76⟩ := Kd.S_slice HO_7.out
         (first | subst eo76 | (injection eo76 with f1_ f2_ f3_; have f4_ := f1_.symm; have f5_ := f3_.symm; clear f1_ f2_ f3_; subst f4_; subst f5_))
         have p336 : 0 ≤ (x9_2 : Int) := of_decide_eq_true (by first | (with_reducible assumption) | assumption)
         have q336 : x9_2 < (t307.length : Int) := of_decide_eq_true (by first | (with_reducible assumption) | assumption)
         obtain ⟨ad336, A336_1, c336_1, e336, hx336_0, hx336_1, hl336_1, hi336_1⟩ := at_T52 (Kd.S_reads' HO_7.out).2.2 x9_2 p336 q336
         cases e336
         obtain ⟨ce336, hce336, hMe336, hcc336⟩ := Kd.S_get HO_7.out z52 x9_2 p336 (by first | exact q336 | exact of_decide_eq_true (by first | (with_reducible assumption) | assumption) | (have e_ := (Kd.S_reads' HO_7.out).1; omega))
         obtain ⟨ve336_1, rfl, ge336_1⟩ := k52_openM hMe336
         have hv336_1 := hcc336 1 _ rfl
         rw [add_field _ _ 1 (by omega)] at hv336_1
         replace hv336_1 := Option.some.inj (hv336_1.symm.trans hx336_1)
         rw [hv336_1] at ge336_1
         have HL336_1 := am (show Kd.R k54 54 _ _ _ _ ((rd_T52 t307 x9_2).vars) from ge336_1)
         clear hv336_1 ge336_1
         clear hcc336 hce336
         have HR336_1 := am hi336_1
         have HC336_1 := am hl336_1
         clear hi336_1 hl336_1
         replace p336 := eq_true p336
         replace q336 := eq_true q336
         have p337 : 0 ≤ (x10_4 : Int) := of_decide_eq_true (by first | (with_reducible assumption) | assumption)
         have q337 : x10_4 < (((rd_T52 t307 x9_2).vars).length : Int) := of_decide_eq_true (by first | (with_reducible assumption) | assumption)
         obtain ⟨ad337, e337, hx337_0, hx337_1, hx337_2, hx337_3⟩ := at_T54 (by repeat (first | (with_reducible exact HR336_1.out) | (with_reducible refine Kd.C_alloc ?_ _) | (with_reducible refine Kd.C_drewN ?_ _) | (with_reducible refine Kd.C_drew ?_) | exact HR336_1.out)) x10_4 p337 q337
         cases e337
         replace p337 := eq_true p337
         replace q337 := eq_true q337
         have p338 : 0 ≤ (x9_2 : Int) := of_decide_eq_true (by first | (with_reducible assumption) | assumption)
         have q338 : x9_2 < (t304.length : Int) := of_decide_eq_true (by first | (with_reducible assumption) | assumption)
         obtain ⟨ad338, A338_1, c338_1, e338, hx338_0, hx338_1, hl338_1, hi338_1⟩ := at_T52 (Kd.S_reads' HO_6.out).2.2 x9_2 p338 q338
         obtain rfl : ad333 = ad338 := (by injection e338)
         obtain ⟨ce338, hce338, hMe338, hcc338⟩ := Kd.S_get HO_6.out z52 x9_2 p338 (by first | exact q338 | exact of_decide_eq_true (by first | (with_reducible assumption) | assumption) | (have e_ := (Kd.S_reads' HO_6.out).1; omega))
         obtain ⟨ve338_1, rfl, ge338_1⟩ := k52_openM hMe338
         have hv338_1 := hcc338 1 _ rfl
         rw [add_field _ _ 1 (by omega)] at hv338_1
         replace hv338_1 := Option.some.inj (hv338_1.symm.trans hx338_1)
         rw [hv338_1] at ge338_1
         have HL338_1 := am (show Kd.R k54 54 _ _ _ _ ((rd_T52 t304 x9_2).vars) from ge338_1)
         clear hv338_1 ge338_1
         clear hcc338 hce338
         have HR338_1 := am hi338_1
         have HC338_1 := am hl338_1
         clear hi338_1 hl338_1
         replace p338 := eq_true p338
         replace q338 := eq_true q338
         have ea_ := Option.some.inj (hx334_1.symm.trans hx338_1)
         injection ea_ with ea_ en_ ec_
         subst ea_
         subst ec_
         clear en_
         have p339 : 0 ≤ (x10_4 : Int) := of_decide_eq_true (by first | (with_reducible assumption) | assumption)
         have q339 : x10_4 < (((rd_T52 t304 x9_2).vars).length : Int) := of_decide_eq_true (by first | (with_reducible assumption) | assumption)
         obtain ⟨ad339, e339, hx339_0, hx339_1, hx339_2, hx339_3⟩ := at_T54 (by repeat (first | (with_reducible exact HR338_1.out) | (with_reducible refine Kd.C_alloc ?_ _) | (with_reducible refine Kd.C_drewN ?_ _) | (with_reducible refine Kd.C_drew ?_) | exact HR338_1.out)) x10_4 p339 q339
         obtain rfl : ad335 = ad339 := (by injection e339)
         replace p339 := eq_true p339
         replace q339 := eq_true q339
         obtain ⟨Ao77, co77, eo77⟩ := Kd.S_slice HO_8.out
         (first | subst eo77 | (injection eo77 with f1_ f2_ f3_; have f4_ := f1_.symm; have f5_ := f3_.symm; clear f1_ f2_ f3_; subst f4_; subst f5_))
         have p340 : 0 ≤ (x9_2 : Int) := of_decide_eq_true (by first | (with_reducible assumption) | assumption)
         have q340 : x9_2 < (t322.length : Int) := of_decide_eq_true (by first | (with_reducible assumption) | assumption)
         obtain ⟨ad340, A340_1, c340_1, e340, hx340_0, hx340_1, hl340_1, hi340_1⟩ := at_T52 (Kd.S_reads' HO_8.out).2.2 x9_2 p340 q340
         cases e340
         obtain ⟨ce340, hce340, hMe340, hcc340⟩ := Kd.S_get HO_8.out z52 x9_2 p340 (by first | exact q340 | exact of_decide_eq_true (by first | (with_reducible assumption) | assumption) | (have e_ := (Kd.S_reads' HO_8.out).1; omega))
         obtain ⟨ve340_1, rfl, ge340_1⟩ := k52_openM hMe340
         have hv340_1 := hcc340 1 _ rfl
         rw [add_field _ _ 1 (by omega)] at hv340_1
         replace hv340_1 := Option.some.inj (hv340_1.symm.trans hx340_1)
         rw [hv340_1] at ge340_1
         have HL340_1 := am (show Kd.R k54 54 _ _ _ _ ((rd_T52 t322 x9_2).vars) from ge340_1)
         clear hv340_1 ge340_1
         clear hcc340 hce340
         have HR340_1 := am hi340_1
         have HC340_1 := am hl340_1
         clear hi340_1 hl340_1
         replace p340 := eq_true p340
         replace q340 := eq_true q340
         have p341 : 0 ≤ (x10_4 : Int) := of_decide_eq_true (by first | (with_reducible assumption) | assumption)
         have q341 : x10_4 < (((rd_T52 t322 x9_2).vars).length : Int) := of_decide_eq_true (by first | (with_reducible assumption) | assumption)
         obtain ⟨ad341, e341, hx341_0, hx341_1, hx341_2, hx341_3⟩ := at_T54 (by repeat (first | (with_reducible exact HR340_1.out) | (with_reducible refine Kd.C_alloc ?_ _) | (with_reducible refine Kd.C_drewN ?_ _) | (with_reducible refine Kd.C_drew ?_) | exact HR340_1.out)) x10_4 p341 q341
         cases e341
         replace p341 := eq_true p341
         replace q341 := eq_true q341
         refine start_ (n := 36) (S := fun w' => w'.cell? (ad333.add ((x9_2).toNat * 2)) = some (.int .i64 ((rd_T52 t304 x9_2).place)) ∧ w'.cell? ⟨(ad333.add ((x9_2).toNat * 2)).block, (ad333.add ((x9_2).toNat * 2)).off + 1, none⟩ = some (.slice (some ad335) ((rd_T52 t304 x9_2).vars).length c334_1) ∧ w'.cell? (ad335.add ((x10_4).toNat * 4)) = some (.string ((rd_T54 ((rd_T52 t304 x9_2).vars) x10_4).name)) ∧ w'.cell? ⟨(ad335.add ((x10_4).toNat * 4)).block, (ad335.add ((x10_4).toNat * 4)).off + 1, none⟩ = some (.int .i64 ((rd_T54 ((rd_T52 t304 x9_2).vars) x10_4).n)) ∧ w'.cell? ⟨(ad335.add ((x10_4).toNat * 4)).block, (ad335.add ((x10_4).toNat * 4)).off + 2, none⟩ = some (.int .i64 ((rd_T54 ((rd_T52 t304 x9_2).vars) x10_4).last)) ∧ w'.cell? ⟨(ad335.add ((x10_4).toNat * 4)).block, (ad335.add ((x10_4).toNat * 4)).off + 3, none⟩ = some (.bool ((rd_T54 ((rd_T52 t304 x9_2).vars) x10_4).taint)) ∧ w'.cell? (ad336.add ((x9_2).toNat * 2)) = some (.int .i64 ((rd_T52 t307 x9_2).place)) ∧ w'.cell? ⟨(ad336.add ((x9_2).toNat * 2)).block, (ad336.add ((x9_2).toNat * 2)).off + 1, none⟩ = some (.slice (some ad337) ((rd_T52 t307 x9_2).vars).length c336_1) ∧ w'.cell? (ad337.add ((x10_4).toNat * 4)) = some (.string ((rd_T54 ((rd_T52 t307 x9_2).vars) x10_4).name)) ∧ w'.cell? ⟨(ad337.add ((x10_4).toNat * 4)).block, (ad337.add ((x10_4).toNat * 4)).off + 1, none⟩ = some (.int .i64 ((rd_T54 ((rd_T52 t307 x9_2).vars) x10_4).n)) ∧ w'.cell? ⟨(ad337.add ((x10_4).toNat * 4)).block, (ad337.add ((x10_4).toNat * 4)).off + 2, none⟩ = some (.int .i64 ((rd_T54 ((rd_T52 t307 x9_2).vars) x10_4).last)) ∧ w'.cell? ⟨(ad337.add ((x10_4).toNat * 4)).block, (ad337.add ((x10_4).toNat * 4)).off + 3, none⟩ = some (.bool ((rd_T54 ((rd_T52 t307 x9_2).vars) x10_4).taint)) ∧ w'.cell? (ad333.add ((x9_2).toNat * 2)) = some (.int .i64 ((rd_T52 t304 x9_2).place)) ∧ w'.cell? ⟨(ad333.add ((x9_2).toNat * 2)).block, (ad333.add ((x9_2).toNat * 2)).off + 1, none⟩ = some (.slice (some ad335) ((rd_T52 t304 x9_2).vars).length c334_1) ∧ w'.cell? (ad335.add ((x10_4).toNat * 4)) = some (.string ((rd_T54 ((rd_T52 t304 x9_2).vars) x10_4).name)) ∧ w'.cell? ⟨(ad335.add ((x10_4).toNat * 4)).block, (ad335.add ((x10_4).toNat * 4)).off + 1, none⟩ = some (.int .i64 ((rd_T54 ((rd_T52 t304 x9_2).vars) x10_4).n)) ∧ w'.cell? ⟨(ad335.add ((x10_4).toNat * 4)).block, (ad335.add ((x10_4).toNat * 4)).off + 2, none⟩ = some (.int .i64 ((rd_T54 ((rd_T52 t304 x9_2).vars) x10_4).last)) ∧ w'.cell? ⟨(ad335.add ((x10_4).toNat * 4)).block, (ad335.add ((x10_4).toNat * 4)).off + 3, none⟩ = some (.bool ((rd_T54 ((rd_T52 t304 x9_2).vars) x10_4).taint)) ∧ w'.cell? (ad340.add ((x9_2).toNat * 2)) = some (.int .i64 ((rd_T52 t322 x9_2).place)) ∧ w'.cell? ⟨(ad340.add ((x9_2).toNat * 2)).block, (ad340.add ((x9_2).toNat * 2)).off + 1, none⟩ = some (.slice (some ad341) ((rd_T52 t322 x9_2).vars).length c340_1) ∧ w'.cell? (ad341.add ((x10_4).toNat * 4)) = some (.string ((rd_T54 ((rd_T52 t322 x9_2).vars) x10_4).name)) ∧ w'.cell? ⟨(ad341.add ((x10_4).toNat * 4)).block, (ad341.add ((x10_4).toNat * 4)).off + 1, none⟩ = some (.int .i64 ((rd_T54 ((rd_T52 t322 x9_2).vars) x10_4).n)) ∧ w'.cell? ⟨(ad341.add ((x10_4).toNat * 4)).block, (ad341.add ((x10_4).toNat * 4)).off + 2, none⟩ = some (.int .i64 ((rd_T54 ((rd_T52 t322 x9_2).vars) x10_4).last)) ∧ w'.cell? ⟨(ad341.add ((x10_4).toNat * 4)).block, (ad341.add ((x10_4).toNat * 4)).off + 3, none⟩ = some (.bool ((rd_T54 ((rd_T52 t322 x9_2).vars) x10_4).taint))) (ds := []) (bl 36 0) (by kernel_rfl) rfl rfl ⟨hx334_0, hx334_1, hx335_0, hx335_1, hx335_2, hx335_3, hx336_0, hx336_1, hx337_0, hx337_1, hx337_2, hx337_3, hx338_0, hx338_1, hx339_0, hx339_1, hx339_2, hx339_3, hx340_0, hx340_1, hx341_0, hx341_1, hx341_2, hx341_3⟩ (fun hHeld => ?_); refine with_tabW lambrequinlaw22_InterpMore.tab17 lambrequinlaw22_InterpMore.bits17 (fun HT_ HW_ => ?_)
         generalize wr.drew = w75 at HO_6 HO_7 HO_8 HL333_1 BK301 HR333_1 HB HL334_1 HL336_1 HL338_1 HL340_1 HR334_1 HR336_1 HR338_1 HR340_1 hx334_0 hx334_1 hx335_0 hx335_1 hx335_2 hx335_3 hx336_0 hx336_1 hx337_0 hx337_1 hx337_2 hx337_3 hx338_0 hx338_1 hx339_0 hx339_1 hx339_2 hx339_3 hx340_0 hx340_1 hx341_0 hx341_1 hx341_2 hx341_3 hHeld ⊢
         refine pure_ (i := 0) (N := some 134) (v := ?_) (a' := ?_) (bl 36 1) rfl rfl (any_of HT_.out (by kernel_rfl)) (fun _ _ _ h => h) (Or.inl ⟨by rfl, ?_⟩) ?_ ?_
         rotate_left
         ·intro w'
          go_simp
          with_reducible rfl
         rotate_left
         ·simp only [Act.put, sA, sZ, sS, i64_w, i32_w]
          rfl
         refine pure_ (i := 1) (N := some 135) (v := ?_) (a' := ?_) (bl 36 3) rfl rfl (any_of HT_.out (by kernel_rfl)) (fun _ _ _ h => h) (Or.inl ⟨by rfl, ?_⟩) ?_ ?_
         rotate_left
         ·intro w'
          go_simp
          with_reducible rfl
         rotate_left
         ·simp only [Act.put, sA, sZ, sS, i64_w, i32_w]
          rfl
         refine pure_ (i := 2) (N := some 136) (v := ?_) (a' := ?_) (bl 36 7) rfl rfl (any_of HT_.out (by kernel_rfl)) (fun _ _ _ h => h) (Or.inl ⟨by rfl, ?_⟩) ?_ ?_
         rotate_left
         ·intro w'
          go_simp
          with_reducible rfl
         rotate_left
         ·simp only [Act.put, sA, sZ, sS, i64_w, i32_w]
          rfl
         refine pure_ (i := 3) (N := some 137) (v := ?_) (a' := ?_) (bl 36 15) rfl rfl (any_of HT_.out (by kernel_rfl)) (fun _ _ _ h => h) (Or.inl ⟨by rfl, ?_⟩) ?_ ?_
         rotate_left
         ·intro w'
          go_simp
          with_reducible rfl
         rotate_left
         ·simp only [Act.put, sA, sZ, sS, i64_w, i32_w]
          rfl
         refine pure_ (i := 5) (N := some 139) (v := ?_) (a' := ?_) (bl 36 47) rfl rfl (any_of HT_.out (by kernel_rfl)) (fun _ _ _ h => h) (Or.inl ⟨by rfl, ?_⟩) ?_ ?_
         rotate_left
         ·intro w'
          go_simp
          with_reducible rfl
         rotate_left
         ·simp only [Act.put, sA, sZ, sS, i64_w, i32_w]
          rfl
         refine pure_ (i := 8) (N := some 142) (v := ?_) (a' := ?_) (bl 36 303) rfl rfl (any_of HT_.out (by kernel_rfl)) (fun _ _ _ h => h) (Or.inl ⟨by rfl, ?_⟩) ?_ ?_
         rotate_left
         ·intro w'
          go_simp
          with_reducible rfl
         rotate_left
         ·simp only [Act.put, sA, sZ, sS, i64_w, i32_w]
          rfl
         refine pure_ (i := 9) (N := some 143) (v := ?_) (a' := ?_) (bl 36 815) rfl rfl (any_of HT_.out (by kernel_rfl)) (fun _ _ _ h => h) (Or.inl ⟨by rfl, ?_⟩) ?_ ?_
         rotate_left
         ·intro w'
          go_simp
          with_reducible rfl
         rotate_left
         ·simp only [Act.put, sA, sZ, sS, i64_w, i32_w]
          rfl
         refine pure_ (i := 10) (N := some 144) (v := ?_) (a' := ?_) (bl 36 1839) rfl rfl (any_of HT_.out (by kernel_rfl)) (fun _ _ _ h => h) (Or.inl ⟨by rfl, ?_⟩) ?_ ?_
         rotate_left
         ·intro w'
          go_simp
          with_reducible rfl
         rotate_left
         ·simp only [Act.put, sA, sZ, sS, i64_w, i32_w]
          rfl
         refine pure_ (i := 11) (N := some 145) (v := ?_) (a' := ?_) (bl 36 3887) rfl rfl (any_of HT_.out (by kernel_rfl)) (fun _ _ _ h => h) (Or.inl ⟨by rfl, ?_⟩) ?_ ?_
         rotate_left
         ·intro w'
          go_simp
          with_reducible rfl
         rotate_left
         ·simp only [Act.put, sA, sZ, sS, i64_w, i32_w]
          rfl
         refine pure_ (i := 13) (N := some 147) (v := ?_) (a' := ?_) (bl 36 12079) rfl rfl (any_of HT_.out (by kernel_rfl)) (fun _ _ _ h => h) (Or.inl ⟨by rfl, ?_⟩) ?_ ?_
         rotate_left
         ·intro w'
          go_simp
          with_reducible rfl
         rotate_left
         ·simp only [Act.put, sA, sZ, sS, i64_w, i32_w]
          rfl
         refine take_ (i := 4) (N := some 138) (v := ?_) (a' := ?_) (bl 36 12095) rfl rfl (take_ofW HT_.out HW_.out (by kernel_rfl)) (fun _ _ _ h => h) (Or.inl ⟨by rfl, ?_⟩) hHeld ?_ ?_
         rotate_left
         ·rintro w' ⟨s0, s1, s2, s3, s4, s5, s6, s7, s8, s9, s10, s11, s12, s13, s14, s15, s16, s17, s18, s19, s20, s21, s22, s23⟩
          go_simp
          with_reducible rfl
         rotate_left
         ·simp only [Act.put, sA, sZ, sS, i64_w, i32_w]
          rfl
         refine pure_ (i := 6) (N := some 140) (v := ?_) (a' := ?_) (bl 36 12159) rfl rfl (any_of HT_.out (by kernel_rfl)) (fun _ _ _ h => h) (Or.inl ⟨by rfl, ?_⟩) ?_ ?_
         rotate_left
         ·intro w'
          go_simp
          with_reducible rfl
         rotate_left
         ·simp only [Act.put, sA, sZ, sS, i64_w, i32_w]
          rfl
         refine take_ (i := 7) (N := some 141) (v := ?_) (a' := ?_) (bl 36 12287) rfl rfl (take_ofW HT_.out HW_.out (by kernel_rfl)) (fun _ _ _ h => h) (Or.inl ⟨by rfl, ?_⟩) hHeld ?_ ?_
         rotate_left
         ·rintro w' ⟨s0, s1, s2, s3, s4, s5, s6, s7, s8, s9, s10, s11, s12, s13, s14, s15, s16, s17, s18, s19, s20, s21, s22, s23⟩
          go_simp
          with_reducible rfl
         rotate_left
         ·simp only [Act.put, sA, sZ, sS, i64_w, i32_w]
          rfl
         refine take_ (i := 12) (N := some 146) (v := ?_) (a' := ?_) (bl 36 16383) rfl rfl (take_ofW HT_.out HW_.out (by kernel_rfl)) (fun _ _ _ h => h) (Or.inl ⟨by rfl, ?_⟩) hHeld ?_ ?_
         rotate_left
         ·rintro w' ⟨s0, s1, s2, s3, s4, s5, s6, s7, s8, s9, s10, s11, s12, s13, s14, s15, s16, s17, s18, s19, s20, s21, s22, s23⟩
          go_simp
          with_reducible rfl
         rotate_left
         ·simp only [Act.put, sA, sZ, sS, i64_w, i32_w]
          rfl
         refine pure_ (i := 14) (N := some 148) (v := ?_) (a' := ?_) (bl 36 32767) rfl rfl (any_of HT_.out (by kernel_rfl)) (fun _ _ _ h => h) (Or.inl ⟨by rfl, ?_⟩) ?_ ?_
         rotate_left
         ·intro w'
          go_simp
          with_reducible rfl
         rotate_left
         ·simp only [Act.put, sA, sZ, sS, i64_w, i32_w]
          rfl
         refine take_ (i := 15) (N := some 149) (v := ?_) (a' := ?_) (bl 36 65535) rfl rfl (take_ofW HT_.out HW_.out (by kernel_rfl)) (fun _ _ _ h => h) (Or.inl ⟨by rfl, ?_⟩) hHeld ?_ ?_
         rotate_left
         ·rintro w' ⟨s0, s1, s2, s3, s4, s5, s6, s7, s8, s9, s10, s11, s12, s13, s14, s15, s16, s17, s18, s19, s20, s21, s22, s23⟩
          go_simp
          with_reducible rfl
         rotate_left
         ·simp only [Act.put, sA, sZ, sS, i64_w, i32_w]
          rfl
         refine pure_ (i := 16) (N := some 150) (v := ?_) (a' := ?_) (bl 36 131071) rfl rfl (any_of HT_.out (by kernel_rfl)) (fun _ _ _ h => h) (Or.inl ⟨by rfl, ?_⟩) ?_ ?_
         rotate_left
         ·intro w'
          go_simp
          with_reducible rfl
         rotate_left
         ·simp only [Act.put, sA, sZ, sS, i64_w, i32_w]
          rfl
         refine pure_ (i := 17) (N := some 151) (v := ?_) (a' := ?_) (bl 36 262143) rfl rfl (any_of HT_.out (by kernel_rfl)) (fun _ _ _ h => h) (Or.inl ⟨by rfl, ?_⟩) ?_ ?_
         rotate_left
         ·intro w'
          go_simp
          with_reducible rfl
         rotate_left
         ·simp only [Act.put, sA, sZ, sS, i64_w, i32_w]
          rfl
         refine pure_ (i := 18) (N := some 152) (v := ?_) (a' := ?_) (bl 36 524287) rfl rfl (any_of HT_.out (by kernel_rfl)) (fun _ _ _ h => h) (Or.inl ⟨by rfl, ?_⟩) ?_ ?_
         rotate_left
         ·intro w'
          go_simp
          with_reducible rfl
         rotate_left
         ·simp only [Act.put, sA, sZ, sS, i64_w, i32_w]
          rfl
         refine pure_ (i := 19) (N := some 153) (v := ?_) (a' := ?_) (bl 36 1048575) rfl rfl (any_of HT_.out (by kernel_rfl)) (fun _ _ _ h => h) (Or.inl ⟨by rfl, ?_⟩) ?_ ?_
         rotate_left
         ·intro w'
          go_simp
          with_reducible rfl
         rotate_left
         ·simp only [Act.put, sA, sZ, sS, i64_w, i32_w]
          rfl
         refine pure_ (i := 20) (N := some 154) (v := ?_) (a' := ?_) (bl 36 2097151) rfl rfl (any_of HT_.out (by kernel_rfl)) (fun _ _ _ h => h) (Or.inl ⟨by rfl, ?_⟩) ?_ ?_
         rotate_left
         ·intro w'
          go_simp
          with_reducible rfl
         rotate_left
         ·simp only [Act.put, sA, sZ, sS, i64_w, i32_w]
          rfl
         refine pure_ (i := 21) (N := some 155) (v := ?_) (a' := ?_) (bl 36 4194303) rfl rfl (any_of HT_.out (by kernel_rfl)) (fun _ _ _ h => h) (Or.inl ⟨by rfl, ?_⟩) ?_ ?_
         rotate_left
         ·intro w'
          go_simp
          with_reducible rfl
         rotate_left
         ·simp only [Act.put, sA, sZ, sS, i64_w, i32_w]
          rfl
         refine pure_ (i := 23) (N := some 157) (v := ?_) (a' := ?_) (bl 36 12582911) rfl rfl (any_of HT_.out (by kernel_rfl)) (fun _ _ _ h => h) (Or.inl ⟨by rfl, ?_⟩) ?_ ?_
         rotate_left
         ·intro w'
          go_simp
          with_reducible rfl
         rotate_left
         ·simp only [Act.put, sA, sZ, sS, i64_w, i32_w]
          rfl
         refine pure_ (i := 26) (N := some 160) (v := ?_) (a' := ?_) (bl 36 79691775) rfl rfl (any_of HT_.out (by kernel_rfl)) (fun _ _ _ h => h) (Or.inl ⟨by rfl, ?_⟩) ?_ ?_
         rotate_left
         ·intro w'
          go_simp
          with_reducible rfl
         rotate_left
         ·simp only [Act.put, sA, sZ, sS, i64_w, i32_w]
          rfl
         refine pure_ (i := 27) (N := some 161) (v := ?_) (a' := ?_) (bl 36 213909503) rfl rfl (any_of HT_.out (by kernel_rfl)) (fun _ _ _ h => h) (Or.inl ⟨by rfl, ?_⟩) ?_ ?_
         rotate_left
         ·intro w'
          go_simp
          with_reducible rfl
         rotate_left
         ·simp only [Act.put, sA, sZ, sS, i64_w, i32_w]
          rfl
         refine pure_ (i := 28) (N := some 162) (v := ?_) (a' := ?_) (bl 36 482344959) rfl rfl (any_of HT_.out (by kernel_rfl)) (fun _ _ _ h => h) (Or.inl ⟨by rfl, ?_⟩) ?_ ?_
         rotate_left
         ·intro w'
          go_simp
          with_reducible rfl
         rotate_left
         ·simp only [Act.put, sA, sZ, sS, i64_w, i32_w]
          rfl
         refine pure_ (i := 29) (N := some 163) (v := ?_) (a' := ?_) (bl 36 1019215871) rfl rfl (any_of HT_.out (by kernel_rfl)) (fun _ _ _ h => h) (Or.inl ⟨by rfl, ?_⟩) ?_ ?_
         rotate_left
         ·intro w'
          go_simp
          with_reducible rfl
         rotate_left
         ·simp only [Act.put, sA, sZ, sS, i64_w, i32_w]
          rfl
         refine pure_ (i := 31) (N := some 165) (v := ?_) (a' := ?_) (bl 36 3166699519) rfl rfl (any_of HT_.out (by kernel_rfl)) (fun _ _ _ h => h) (Or.inl ⟨by rfl, ?_⟩) ?_ ?_
         rotate_left
         ·intro w'
          go_simp
          with_reducible rfl
         rotate_left
         ·simp only [Act.put, sA, sZ, sS, i64_w, i32_w]
          rfl
         refine take_ (i := 22) (N := some 156) (v := ?_) (a' := ?_) (bl 36 3170893823) rfl rfl (take_ofW HT_.out HW_.out (by kernel_rfl)) (fun _ _ _ h => h) (Or.inl ⟨by rfl, ?_⟩) hHeld ?_ ?_
         rotate_left
         ·rintro w' ⟨s0, s1, s2, s3, s4, s5, s6, s7, s8, s9, s10, s11, s12, s13, s14, s15, s16, s17, s18, s19, s20, s21, s22, s23⟩
          go_simp
          with_reducible rfl
         rotate_left
         ·simp only [Act.put, sA, sZ, sS, i64_w, i32_w]
          rfl
         refine pure_ (i := 24) (N := some 158) (v := ?_) (a' := ?_) (bl 36 3187671039) rfl rfl (any_of HT_.out (by kernel_rfl)) (fun _ _ _ h => h) (Or.inl ⟨by rfl, ?_⟩) ?_ ?_
         rotate_left
         ·intro w'
          go_simp
          with_reducible rfl
         rotate_left
         ·simp only [Act.put, sA, sZ, sS, i64_w, i32_w]
          rfl
         refine take_ (i := 25) (N := some 159) (v := ?_) (a' := ?_) (bl 36 3221225471) rfl rfl (take_ofW HT_.out HW_.out (by kernel_rfl)) (fun _ _ _ h => h) (Or.inl ⟨by rfl, ?_⟩) hHeld ?_ ?_
         rotate_left
         ·rintro w' ⟨s0, s1, s2, s3, s4, s5, s6, s7, s8, s9, s10, s11, s12, s13, s14, s15, s16, s17, s18, s19, s20, s21, s22, s23⟩
          go_simp
          with_reducible rfl
         rotate_left
         ·simp only [Act.put, sA, sZ, sS, i64_w, i32_w]
          rfl
         refine take_ (i := 30) (N := some 164) (v := ?_) (a' := ?_) (bl 36 4294967295) rfl rfl (take_ofW HT_.out HW_.out (by kernel_rfl)) (fun _ _ _ h => h) (Or.inl ⟨by rfl, ?_⟩) hHeld ?_ ?_
         rotate_left
         ·rintro w' ⟨s0, s1, s2, s3, s4, s5, s6, s7, s8, s9, s10, s11, s12, s13, s14, s15, s16, s17, s18, s19, s20, s21, s22, s23⟩
          go_simp
          with_reducible rfl
         rotate_left
         ·simp only [Act.put, sA, sZ, sS, i64_w, i32_w]
          rfl
         refine pure_ (i := 32) (N := some 166) (v := ?_) (a' := ?_) (bl 36 8589934591) rfl rfl (any_of HT_.out (by kernel_rfl)) (fun _ _ _ h => h) (Or.inl ⟨by rfl, ?_⟩) ?_ ?_
         rotate_left
         ·intro w'
          go_simp
          with_reducible rfl
         rotate_left
         ·simp only [Act.put, sA, sZ, sS, i64_w, i32_w]
          rfl
         refine take_ (i := 33) (N := some 167) (v := ?_) (a' := ?_) (bl 36 17179869183) rfl rfl (take_ofW HT_.out HW_.out (by kernel_rfl)) (fun _ _ _ h => h) (Or.inl ⟨by rfl, ?_⟩) hHeld ?_ ?_
         rotate_left
         ·rintro w' ⟨s0, s1, s2, s3, s4, s5, s6, s7, s8, s9, s10, s11, s12, s13, s14, s15, s16, s17, s18, s19, s20, s21, s22, s23⟩
          go_simp
          with_reducible rfl
         rotate_left
         ·simp only [Act.put, sA, sZ, sS, i64_w, i32_w]
          rfl
         refine pure_ (i := 34) (N := some 168) (v := ?_) (a' := ?_) (bl 36 34359738367) rfl rfl (any_of HT_.out (by kernel_rfl)) (fun _ _ _ h => h) (Or.inl ⟨by rfl, ?_⟩) ?_ ?_
         rotate_left
         ·intro w'
          go_simp
          with_reducible rfl
         rotate_left
         ·simp only [Act.put, sA, sZ, sS, i64_w, i32_w]
          rfl
         refine pure_ (i := 35) (N := some 169) (v := ?_) (a' := ?_) (bl 36 68719476735) rfl rfl (any_of HT_.out (by kernel_rfl)) (fun _ _ _ h => h) (Or.inl ⟨by rfl, ?_⟩) ?_ ?_
         rotate_left
         ·intro w'
          go_simp
          with_reducible rfl
         rotate_left
         ·simp only [Act.put, sA, sZ, sS, i64_w, i32_w]
          rfl
         refine done_ (done_of HT_.out (by kernel_rfl)) ?_
         try go_wp2
         go_roundg k4
         case measure => have := HJ11.out; have := HK2.out; have := HJ39.out; have := HK4.out; omega
         case rel => exact ⟨(wrap64 (x10_4 + 1)), (by first | rfl | (simp; done) | (simp [*]; done)), H', ⟨by have := HJ11.out; have := HK2.out; have := HJ39.out; have := HK4.out; omega⟩, ⟨by (with_reducible repeat (first | apply Kd.S_alloc | apply Kd.S_drewN | apply Kd.S_drew)); exact HO_6.out⟩, ⟨by (with_reducible repeat (first | apply Kd.S_alloc | apply Kd.S_drewN | apply Kd.S_drew)); exact HO_7.out⟩, ⟨by (with_reducible repeat (first | apply Kd.S_alloc | apply Kd.S_drewN | apply Kd.S_drew)); exact HO_8.out⟩, ⟨by (with_reducible repeat (first | refine bN ?_ _ | refine bD ?_ | refine bA ?_ _)); exact BK301.out⟩, ⟨by repeat (first | (with_reducible first | exact HB.out | apply lA | apply lN | apply lD | refine lS ?_ GE301.out) | exact HB.out)⟩⟩
end Go.Proofs.Ytnepgcbgkhikkaa.H

/- RowGraphThrough of the seat's law GraphThrough: the law holds, under the statement's own conditions. -/
import Derived.Test.YtmlhnjonmjmhdaaNXGraphThrough
import Derived.Test.YtmlhnjonmjmhdaaNXGraphThrough1
import Derived.Test.YtmlhnjonmjmhdaaRows
import Derived.Test.YtmlhnjonmjmhdaaNW
import Derived.WalkKit
import Derived.ProofKit
import Derived.OpenShut
import Derived.ShutString
import Derived.ChangeOld
import Derived.Below
import Derived.SizedLaws
import Derived.Carry
set_option linter.unusedVariables false
set_option linter.unusedSimpArgs false
set_option linter.unusedSectionVars false
namespace Go.Proofs.Ytmlhnjonmjmhdaa.H
open Go.RowKit Go.Proofs.YtmlhnjonmjmhdaaW.PrintWords Go.Proofs.YtmlhnjonmjmhdaaW.PrintLast Go.Proofs.YtmlhnjonmjmhdaaW.PrintMore
attribute [local go_sem] max2_int min2_int max_two min_two max_three min_three max_four min_four
mutual
def lambrequinlaw10_GraphThrough.j0 : Nat → Bool → Int → List (IPair) → Int → Int → List Bool → List Bool → Bool → Option (Bool)
 | 0, _, _, _, _, _, _, _, _ => none
 | k + 1, x9, x10, x11, x12, x13, x14, x15, x51 => if x51 = true then (some false) else (lambrequinlaw10_GraphThrough.l0 k x9 x10 x11 x12 x13 x14 x15 0)
def lambrequinlaw10_GraphThrough.l0 : Nat → Bool → Int → List (IPair) → Int → Int → List Bool → List Bool → Int → Option (Bool)
 | 0, _, _, _, _, _, _, _, _ => none
 | k + 1, x9, x10, x11, x12, x13, x14, x15, x16 => if x16 < x10 then (if 0 ≤ x13 then (if x13 < (x14.length : Int) then (if rdOf false x14 x13 = true then (if 0 ≤ x16 then (if x16 < (x15.length : Int) then (if rdOf false x15 x16 = true then (if x16 < (x14.length : Int) then (if rdOf false x14 x16 = true then (lambrequinlaw10_GraphThrough.l0 k x9 x10 x11 x12 x13 x14 x15 (wrap64 (x16 + 1))) else (some false)) else (none)) else (lambrequinlaw10_GraphThrough.l0 k x9 x10 x11 x12 x13 x14 x15 (wrap64 (x16 + 1)))) else (none)) else (none)) else (lambrequinlaw10_GraphThrough.l0 k x9 x10 x11 x12 x13 x14 x15 (wrap64 (x16 + 1)))) else (none)) else (none)) else ((graph_Path.f k x10 x11 x12 x13).bind fun t115 => (lambrequinlaw10_GraphThrough.l1 k x9 x10 x11 x12 x13 t115 0))
def lambrequinlaw10_GraphThrough.l1 : Nat → Bool → Int → List (IPair) → Int → Int → List Int → Int → Option (Bool)
 | 0, _, _, _, _, _, _, _ => none
 | k + 1, x9, x10, x11, x12, x13, x17, x18 => if x18 < (x17.length : Int) then (if 0 ≤ x18 then (if (rd x17 x18) < 0 then (lambrequinlaw10_GraphThrough.j3 k x9 x10 x11 x12 x13 x17 x18 true) else (lambrequinlaw10_GraphThrough.j3 k x9 x10 x11 x12 x13 x17 x18 (decide ((rd x17 x18) ≥ x10)))) else (none)) else (some x9)
def lambrequinlaw10_GraphThrough.j3 : Nat → Bool → Int → List (IPair) → Int → Int → List Int → Int → Bool → Option (Bool)
 | 0, _, _, _, _, _, _, _, _ => none
 | k + 1, x9, x10, x11, x12, x13, x17, x18, x97 => if x97 = true then (some false) else (if 0 ≤ x18 then (if x18 < (x17.length : Int) then ((graph_Path.f k x10 x11 x12 (rd x17 x18)).bind fun t121 => (if 0 ≤ (wrap64 (x18 + 1)) then (if (wrap64 (x18 + 1)) ≤ (x17.length : Int) then ((lambrequinref10_Ints.f k t121 (x17.take ((wrap64 (x18 + 1)) : Int).toNat)).bind fun t128 => (if t128 = true then ((graph_Path.f k x10 x11 (rd x17 x18) x13).bind fun t130 => (if (t130.length : Int) = (wrap64 ((x17.length : Int) - x18)) then (lambrequinlaw10_GraphThrough.l1 k x9 x10 x11 x12 x13 x17 (wrap64 (x18 + 1))) else (some false))) else (some false))) else (none)) else (none))) else (none)) else (none))
end
def lambrequinlaw10_GraphThrough.f (k : Nat) (a0 : Int) (l1 : List (BPair)) (a2 : Int) (a3 : Int) : Option (Bool) := (lambrequinlaw10_shown.f k).bind fun t101 => ((lambrequinlaw10_ends.f k a0 l1).bind fun bt102 => (if bt102.1 = 0 then (none) else ((graph_Reach.f k bt102.1 bt102.2 (Int.tmod (wrap64 (a2)) bt102.1)).bind fun t106 => ((graph_Reach.f k bt102.1 bt102.2 (Int.tmod (wrap64 (a3)) bt102.1)).bind fun t109 => (if (t106.length : Int) = bt102.1 then (lambrequinlaw10_GraphThrough.j0 k t101 bt102.1 bt102.2 (Int.tmod (wrap64 (a2)) bt102.1) (Int.tmod (wrap64 (a3)) bt102.1) t106 t109 ((t109.length : Int) != bt102.1)) else (lambrequinlaw10_GraphThrough.j0 k t101 bt102.1 bt102.2 (Int.tmod (wrap64 (a2)) bt102.1) (Int.tmod (wrap64 (a3)) bt102.1) t106 t109 true))))))
theorem lambrequinlaw10_GraphThrough.mono_l : ∀ k, (∀ y0 y1 y2 y3 y4 y5 y6 y7, LeO (lambrequinlaw10_GraphThrough.j0 k y0 y1 y2 y3 y4 y5 y6 y7) (lambrequinlaw10_GraphThrough.j0 (k + 1) y0 y1 y2 y3 y4 y5 y6 y7)) ∧ (∀ y0 y1 y2 y3 y4 y5 y6 y7, LeO (lambrequinlaw10_GraphThrough.l0 k y0 y1 y2 y3 y4 y5 y6 y7) (lambrequinlaw10_GraphThrough.l0 (k + 1) y0 y1 y2 y3 y4 y5 y6 y7)) ∧ (∀ y0 y1 y2 y3 y4 y5 y6, LeO (lambrequinlaw10_GraphThrough.l1 k y0 y1 y2 y3 y4 y5 y6) (lambrequinlaw10_GraphThrough.l1 (k + 1) y0 y1 y2 y3 y4 y5 y6)) ∧ (∀ y0 y1 y2 y3 y4 y5 y6 y7, LeO (lambrequinlaw10_GraphThrough.j3 k y0 y1 y2 y3 y4 y5 y6 y7) (lambrequinlaw10_GraphThrough.j3 (k + 1) y0 y1 y2 y3 y4 y5 y6 y7))
 | 0 => ⟨fun _ _ _ _ _ _ _ _ r h => by simp [lambrequinlaw10_GraphThrough.j0] at h, fun _ _ _ _ _ _ _ _ r h => by simp [lambrequinlaw10_GraphThrough.l0] at h, fun _ _ _ _ _ _ _ r h => by simp [lambrequinlaw10_GraphThrough.l1] at h, fun _ _ _ _ _ _ _ _ r h => by simp [lambrequinlaw10_GraphThrough.j3] at h⟩
 | k + 1 => by
  obtain ⟨ih0, ih1, ih2, ih3⟩ := lambrequinlaw10_GraphThrough.mono_l k
  refine ⟨?_, ?_, ?_, ?_⟩
  ·intro y0 y1 y2 y3 y4 y5 y6 y7
   unfold lambrequinlaw10_GraphThrough.j0
   repeat' first
   | (with_reducible exact ih0 _ _ _ _ _ _ _ _)
   | (with_reducible exact ih1 _ _ _ _ _ _ _ _)
   | (with_reducible exact ih2 _ _ _ _ _ _ _)
   | (with_reducible exact ih3 _ _ _ _ _ _ _ _)
   | (with_reducible exact graph_Path.mono _ _ _ _ _)
   | (with_reducible exact graph_Reach.mono _ _ _ _)
   | (with_reducible exact lambrequinlaw10_ends.mono _ _ _)
   | (with_reducible exact lambrequinlaw10_shown.mono _)
   | (with_reducible exact lambrequinref10_Ints.mono _ _ _)
   | (with_reducible exact LeO.refl _)
   | (with_reducible exact LeO.none _)
   | (with_reducible refine LeO.ite ?_ ?_)
   | (with_reducible refine LeO.bind ?_ (fun _ => ?_))
   | exact ih0 _ _ _ _ _ _ _ _
   | exact ih1 _ _ _ _ _ _ _ _
   | exact ih2 _ _ _ _ _ _ _
   | exact ih3 _ _ _ _ _ _ _ _
   | exact graph_Path.mono _ _ _ _ _
   | exact graph_Reach.mono _ _ _ _
   | exact lambrequinlaw10_ends.mono _ _ _
   | exact lambrequinlaw10_shown.mono _
   | exact lambrequinref10_Ints.mono _ _ _
   | exact LeO.none _
   | refine LeO.ite ?_ ?_
   | refine LeO.bind ?_ (fun _ => ?_)
  ·intro y0 y1 y2 y3 y4 y5 y6 y7
   unfold lambrequinlaw10_GraphThrough.l0
   repeat' first
   | (with_reducible exact ih0 _ _ _ _ _ _ _ _)
   | (with_reducible exact ih1 _ _ _ _ _ _ _ _)
   | (with_reducible exact ih2 _ _ _ _ _ _ _)
   | (with_reducible exact ih3 _ _ _ _ _ _ _ _)
   | (with_reducible exact graph_Path.mono _ _ _ _ _)
   | (with_reducible exact graph_Reach.mono _ _ _ _)
   | (with_reducible exact lambrequinlaw10_ends.mono _ _ _)
   | (with_reducible exact lambrequinlaw10_shown.mono _)
   | (with_reducible exact lambrequinref10_Ints.mono _ _ _)
   | (with_reducible exact LeO.refl _)
   | (with_reducible exact LeO.none _)
   | (with_reducible refine LeO.ite ?_ ?_)
   | (with_reducible refine LeO.bind ?_ (fun _ => ?_))
   | exact ih0 _ _ _ _ _ _ _ _
   | exact ih1 _ _ _ _ _ _ _ _
   | exact ih2 _ _ _ _ _ _ _
   | exact ih3 _ _ _ _ _ _ _ _
   | exact graph_Path.mono _ _ _ _ _
   | exact graph_Reach.mono _ _ _ _
   | exact lambrequinlaw10_ends.mono _ _ _
   | exact lambrequinlaw10_shown.mono _
   | exact lambrequinref10_Ints.mono _ _ _
   | exact LeO.none _
   | refine LeO.ite ?_ ?_
   | refine LeO.bind ?_ (fun _ => ?_)
  ·intro y0 y1 y2 y3 y4 y5 y6
   unfold lambrequinlaw10_GraphThrough.l1
   repeat' first
   | (with_reducible exact ih0 _ _ _ _ _ _ _ _)
   | (with_reducible exact ih1 _ _ _ _ _ _ _ _)
   | (with_reducible exact ih2 _ _ _ _ _ _ _)
   | (with_reducible exact ih3 _ _ _ _ _ _ _ _)
   | (with_reducible exact graph_Path.mono _ _ _ _ _)
   | (with_reducible exact graph_Reach.mono _ _ _ _)
   | (with_reducible exact lambrequinlaw10_ends.mono _ _ _)
   | (with_reducible exact lambrequinlaw10_shown.mono _)
   | (with_reducible exact lambrequinref10_Ints.mono _ _ _)
   | (with_reducible exact LeO.refl _)
   | (with_reducible exact LeO.none _)
   | (with_reducible refine LeO.ite ?_ ?_)
   | (with_reducible refine LeO.bind ?_ (fun _ => ?_))
   | exact ih0 _ _ _ _ _ _ _ _
   | exact ih1 _ _ _ _ _ _ _ _
   | exact ih2 _ _ _ _ _ _ _
   | exact ih3 _ _ _ _ _ _ _ _
   | exact graph_Path.mono _ _ _ _ _
   | exact graph_Reach.mono _ _ _ _
   | exact lambrequinlaw10_ends.mono _ _ _
   | exact lambrequinlaw10_shown.mono _
   | exact lambrequinref10_Ints.mono _ _ _
   | exact LeO.none _
   | refine LeO.ite ?_ ?_
   | refine LeO.bind ?_ (fun _ => ?_)
  ·intro y0 y1 y2 y3 y4 y5 y6 y7
   unfold lambrequinlaw10_GraphThrough.j3
   repeat' first
   | (with_reducible exact ih0 _ _ _ _ _ _ _ _)
   | (with_reducible exact ih1 _ _ _ _ _ _ _ _)
   | (with_reducible exact ih2 _ _ _ _ _ _ _)
   | (with_reducible exact ih3 _ _ _ _ _ _ _ _)
   | (with_reducible exact graph_Path.mono _ _ _ _ _)
   | (with_reducible exact graph_Reach.mono _ _ _ _)
   | (with_reducible exact lambrequinlaw10_ends.mono _ _ _)
   | (with_reducible exact lambrequinlaw10_shown.mono _)
   | (with_reducible exact lambrequinref10_Ints.mono _ _ _)
   | (with_reducible exact LeO.refl _)
   | (with_reducible exact LeO.none _)
   | (with_reducible refine LeO.ite ?_ ?_)
   | (with_reducible refine LeO.bind ?_ (fun _ => ?_))
   | exact ih0 _ _ _ _ _ _ _ _
   | exact ih1 _ _ _ _ _ _ _ _
   | exact ih2 _ _ _ _ _ _ _
   | exact ih3 _ _ _ _ _ _ _ _
   | exact graph_Path.mono _ _ _ _ _
   | exact graph_Reach.mono _ _ _ _
   | exact lambrequinlaw10_ends.mono _ _ _
   | exact lambrequinlaw10_shown.mono _
   | exact lambrequinref10_Ints.mono _ _ _
   | exact LeO.none _
   | refine LeO.ite ?_ ?_
   | refine LeO.bind ?_ (fun _ => ?_)
theorem lambrequinlaw10_GraphThrough.mono : ∀ a0 a1 a2 a3 k, LeO (lambrequinlaw10_GraphThrough.f k a0 a1 a2 a3) (lambrequinlaw10_GraphThrough.f (k + 1) a0 a1 a2 a3) := by
 intro a0 a1 a2 a3 k
 obtain ⟨ih0, ih1, ih2, ih3⟩ := lambrequinlaw10_GraphThrough.mono_l k
 unfold lambrequinlaw10_GraphThrough.f
 repeat' first
   | (with_reducible exact ih0 _ _ _ _ _ _ _ _)
   | (with_reducible exact ih1 _ _ _ _ _ _ _ _)
   | (with_reducible exact ih2 _ _ _ _ _ _ _)
   | (with_reducible exact ih3 _ _ _ _ _ _ _ _)
   | (with_reducible exact graph_Path.mono _ _ _ _ _)
   | (with_reducible exact graph_Reach.mono _ _ _ _)
   | (with_reducible exact lambrequinlaw10_ends.mono _ _ _)
   | (with_reducible exact lambrequinlaw10_shown.mono _)
   | (with_reducible exact lambrequinref10_Ints.mono _ _ _)
   | (with_reducible exact LeO.refl _)
   | (with_reducible exact LeO.none _)
   | (with_reducible refine LeO.ite ?_ ?_)
   | (with_reducible refine LeO.bind ?_ (fun _ => ?_))
   | exact ih0 _ _ _ _ _ _ _ _
   | exact ih1 _ _ _ _ _ _ _ _
   | exact ih2 _ _ _ _ _ _ _
   | exact ih3 _ _ _ _ _ _ _ _
   | exact graph_Path.mono _ _ _ _ _
   | exact graph_Reach.mono _ _ _ _
   | exact lambrequinlaw10_ends.mono _ _ _
   | exact lambrequinlaw10_shown.mono _
   | exact lambrequinref10_Ints.mono _ _ _
   | exact LeO.none _
   | refine LeO.ite ?_ ?_
   | refine LeO.bind ?_ (fun _ => ?_)
def lambrequinlaw10_GraphThrough.T20 : Bool × List (List Nat × List Nat) := (true, [([], []), ([], []), ([], []), ([], []), ([], []), ([3, 4], [3, 4]), ([5], [5]), ([0, 1, 2, 6], [0, 1, 2, 6]), ([], []), ([], []), ([9], [9]), ([8, 10], [8, 10]), ([7, 11, 7], [7, 11]), ([12], [12]), ([13, 12], [13]), ([14], [14]), ([14], [14]), ([14], [14]), ([14], [14]), ([17, 18, 14], [14, 17, 18]), ([19, 14], [14, 19]), ([14], [14]), ([15, 16, 20, 21, 14, 14], [14, 15, 16, 20, 21]), ([22, 14], [14, 22]), ([14], [14]), ([24, 14], [14, 24]), ([14], [14]), ([25, 26, 14], [14, 25, 26]), ([23, 27, 14], [14, 23, 27]), ([14, 28], [14, 28])])
def lambrequinlaw10_GraphThrough.B20 : List Nat := [0, 0, 0, 0, 0, 24, 56, 127, 0, 0, 512, 1792, 4095, 8191, 16383, 32767, 32767, 32767, 32767, 425983, 950271, 32767, 4194303, 8388607, 32767, 16809983, 32767, 117473279, 268435455, 536870911]
theorem lambrequinlaw10_GraphThrough.tab20 : rtab .any (opsOf Try.f8 20) = lambrequinlaw10_GraphThrough.T20 := by kernel_rfl
theorem lambrequinlaw10_GraphThrough.bits20 : waitsOk lambrequinlaw10_GraphThrough.T20.2 lambrequinlaw10_GraphThrough.B20 = true := by kernel_rfl
set_option maxHeartbeats 8000000 in
set_option maxRecDepth 100000 in
theorem lambrequinlaw10_GraphThrough.calls (k : Nat) (a0 : Int) (A1 : Option Addr) (c1 : Nat) (l1 : List (BPair)) (a2 : Int) (a3 : Int) (r : Bool) (w : World) (hr1 : Kd.C k45 w A1 l1.length l1) (hc1 : l1.length ≤ c1) (h : lambrequinlaw10_GraphThrough.f k a0 l1 a2 a3 = some r) :
  Calls Try.prog 8 #[.int .u8 a0, .slice A1 l1.length c1, .int .u8 a2, .int .u8 a3] w fun e w' => e = .returned (.bool r) ∧ Below w.heap.size w w' := by
 have HR1 := am hr1
 have HC1 := am hc1
 clear hr1 hc1
 have HB := am (Below.refl w.heap.size w)
 have H : ((lambrequinlaw10_shown.f k).bind fun t101 => ((lambrequinlaw10_ends.f k a0 l1).bind fun bt102 => (if bt102.1 = 0 then (none) else ((graph_Reach.f k bt102.1 bt102.2 (Int.tmod (wrap64 (a2)) bt102.1)).bind fun t106 => ((graph_Reach.f k bt102.1 bt102.2 (Int.tmod (wrap64 (a3)) bt102.1)).bind fun t109 => (if (t106.length : Int) = bt102.1 then (lambrequinlaw10_GraphThrough.j0 k t101 bt102.1 bt102.2 (Int.tmod (wrap64 (a2)) bt102.1) (Int.tmod (wrap64 (a3)) bt102.1) t106 t109 ((t109.length : Int) != bt102.1)) else (lambrequinlaw10_GraphThrough.j0 k t101 bt102.1 bt102.2 (Int.tmod (wrap64 (a2)) bt102.1) (Int.tmod (wrap64 (a3)) bt102.1) t106 t109 true))))))) = some r := h
 clear h
 replace H := Option.bind_eq_some_iff.mp H
 obtain ⟨t101, A50, H⟩ := H
 replace H : ((lambrequinlaw10_ends.f k a0 l1).bind fun bt102 => (if bt102.1 = 0 then (none) else ((graph_Reach.f k bt102.1 bt102.2 (Int.tmod (wrap64 (a2)) bt102.1)).bind fun t106 => ((graph_Reach.f k bt102.1 bt102.2 (Int.tmod (wrap64 (a3)) bt102.1)).bind fun t109 => (if (t106.length : Int) = bt102.1 then (lambrequinlaw10_GraphThrough.j0 k t101 bt102.1 bt102.2 (Int.tmod (wrap64 (a2)) bt102.1) (Int.tmod (wrap64 (a3)) bt102.1) t106 t109 ((t109.length : Int) != bt102.1)) else (lambrequinlaw10_GraphThrough.j0 k t101 bt102.1 bt102.2 (Int.tmod (wrap64 (a2)) bt102.1) (Int.tmod (wrap64 (a3)) bt102.1) t106 t109 true)))))) = some r := H
 have A5 := am A50
 clear A50
 replace H := Option.bind_eq_some_iff.mp H
 obtain ⟨⟨t102, t103⟩, A60, H⟩ := H
 replace H : (if t102 = 0 then (none) else ((graph_Reach.f k t102 t103 (Int.tmod (wrap64 (a2)) t102)).bind fun t106 => ((graph_Reach.f k t102 t103 (Int.tmod (wrap64 (a3)) t102)).bind fun t109 => (if (t106.length : Int) = t102 then (lambrequinlaw10_GraphThrough.j0 k t101 t102 t103 (Int.tmod (wrap64 (a2)) t102) (Int.tmod (wrap64 (a3)) t102) t106 t109 ((t109.length : Int) != t102)) else (lambrequinlaw10_GraphThrough.j0 k t101 t102 t103 (Int.tmod (wrap64 (a2)) t102) (Int.tmod (wrap64 (a3)) t102) t106 t109 true))))) = some r := H
 have A6 := am A60
 clear A60
 by_cases c7 : t102 = 0
 ·rw [if_pos c7] at H
  exact absurd H (by simp)
 ·rw [if_neg c7] at H
  have c7b0 : (t102 == 0) = false := beq_eq_false_iff_ne.mpr c7
  have c7b1 : (t102 != 0) = true := bne_iff_ne.mpr c7
  replace H := Option.bind_eq_some_iff.mp H
  obtain ⟨t106, A80, H⟩ := H
  replace H : ((graph_Reach.f k t102 t103 (Int.tmod (wrap64 (a3)) t102)).bind fun t109 => (if (t106.length : Int) = t102 then (lambrequinlaw10_GraphThrough.j0 k t101 t102 t103 (Int.tmod (wrap64 (a2)) t102) (Int.tmod (wrap64 (a3)) t102) t106 t109 ((t109.length : Int) != t102)) else (lambrequinlaw10_GraphThrough.j0 k t101 t102 t103 (Int.tmod (wrap64 (a2)) t102) (Int.tmod (wrap64 (a3)) t102) t106 t109 true))) = some r := H
  have A8 := am A80
  clear A80
  replace H := Option.bind_eq_some_iff.mp H
  obtain ⟨t109, A90, H⟩ := H
  replace H : (if (t106.length : Int) = t102 then (lambrequinlaw10_GraphThrough.j0 k t101 t102 t103 (Int.tmod (wrap64 (a2)) t102) (Int.tmod (wrap64 (a3)) t102) t106 t109 ((t109.length : Int) != t102)) else (lambrequinlaw10_GraphThrough.j0 k t101 t102 t103 (Int.tmod (wrap64 (a2)) t102) (Int.tmod (wrap64 (a3)) t102) t106 t109 true)) = some r := H
  have A9 := am A90
  clear A90
  have HC10 := am H
  clear H
  go_enter Try.func8, Try.ntmps8
  go_upto_region 7 with (first | ((with_reducible refine gate_callee (f := 14) rfl ?_); refine goesL_ (some 19) rfl rfl Try.func14 (by kernel_rfl) rfl #[] rfl (by (try simp only [List.map_toArray, List.map_cons, List.map_nil]); first | done | rfl | (simp only [List.length_drop, List.length_take]; rfl)) ?_; (with_reducible refine (lambrequinlaw10_shown.calls k  t101 _ A5.out).mono ?_); rintro e w11 ⟨rfl, hb⟩; refine ⟨_, rfl, ?_⟩; replace HB := am (below_step (by repeat (first | (with_reducible first | exact HB.out | apply lA | apply lN | apply lD) | exact HB.out)) hb); (try clear hb); (try clear hb2); (try clear hk); (try clear hi)) | ((with_reducible refine gate_callee (f := 15) rfl ?_); refine goesL_ (some 23) rfl rfl Try.func15 (by kernel_rfl) rfl #[.int .u8 a0, .slice A1 l1.length c1] rfl (by (try simp only [List.map_toArray, List.map_cons, List.map_nil]); first | done | rfl | (simp only [List.length_drop, List.length_take]; rfl)) ?_; (with_reducible refine (lambrequinlaw10_ends.calls k a0 _ _ l1 t102 t103 _ ?side1 ?side2 A6.out).mono ?_); (case side1 => repeat (first | exact (Kd.C_below HR1.out HB.out) | (with_reducible refine Kd.C_alloc ?_ _) | (with_reducible refine Kd.C_drewN ?_ _) | (with_reducible refine Kd.C_drew ?_))); (case side2 => exact HC1.out); rintro e w12 ⟨v104, rfl, ho0, hb⟩; refine ⟨_, rfl, ?_⟩; have HO105 := am (Kd.R_lower ho0 (below_size (by repeat (first | (with_reducible first | exact HB.out | apply lA | apply lN | apply lD) | exact HB.out)))); replace HB := am (below_step (by repeat (first | (with_reducible first | exact HB.out | apply lA | apply lN | apply lD) | exact HB.out)) hb); (try clear hb); (try clear hb2); (try clear hk); (try clear hi); (try clear ho0); obtain ⟨Ao13, co13, eo13⟩ := Kd.R_slice HO105.out; subst eo13) | ((with_reducible refine gate_callee (f := 22) rfl ?_); refine goesL_ (some 37) rfl rfl Try.func22 (by kernel_rfl) rfl #[.int .i64 t102, .slice Ao13 t103.length co13, .int .i64 (Int.tmod (wrap64 (a2)) t102)] rfl (by (try simp only [List.map_toArray, List.map_cons, List.map_nil]); first | done | rfl | (simp only [List.length_drop, List.length_take]; rfl)) ?_; (with_reducible refine (graph_Reach.calls k t102 _ _ t103 (Int.tmod (wrap64 (a2)) t102) t106 _ ?side1 ?side2 A8.out).mono ?_); (case side1 => repeat (first | exact (Kd.R_reads' HO105.out).2.2 | (with_reducible refine Kd.C_alloc ?_ _) | (with_reducible refine Kd.C_drewN ?_ _) | (with_reducible refine Kd.C_drew ?_))); (case side2 => exact (Kd.R_reads' HO105.out).2.1); rintro e w14 ⟨v107, rfl, ho0, hb⟩; refine ⟨_, rfl, ?_⟩; replace HO105 := am (Kd.R_below (by (with_reducible repeat (first | apply Ra | apply Rn | apply Rd)); exact HO105.out) hb); have HO108 := am (Kd.R_lower ho0 (below_size (by repeat (first | (with_reducible first | exact HB.out | apply lA | apply lN | apply lD) | exact HB.out)))); replace HB := am (below_step (by repeat (first | (with_reducible first | exact HB.out | apply lA | apply lN | apply lD) | exact HB.out)) hb); (try clear hb); (try clear hb2); (try clear hk); (try clear hi); (try clear ho0)) | ((with_reducible refine gate_callee (f := 22) rfl ?_); refine goesL_ (some 41) rfl rfl Try.func22 (by kernel_rfl) rfl #[.int .i64 t102, .slice Ao13 t103.length co13, .int .i64 (Int.tmod (wrap64 (a3)) t102)] rfl (by (try simp only [List.map_toArray, List.map_cons, List.map_nil]); first | done | rfl | (simp only [List.length_drop, List.length_take]; rfl)) ?_; (with_reducible refine (graph_Reach.calls k t102 _ _ t103 (Int.tmod (wrap64 (a3)) t102) t109 _ ?side1 ?side2 A9.out).mono ?_); (case side1 => repeat (first | exact (Kd.R_reads' HO105.out).2.2 | (with_reducible refine Kd.C_alloc ?_ _) | (with_reducible refine Kd.C_drewN ?_ _) | (with_reducible refine Kd.C_drew ?_))); (case side2 => exact (Kd.R_reads' HO105.out).2.1); rintro e w15 ⟨v110, rfl, ho0, hb⟩; refine ⟨_, rfl, ?_⟩; replace HO105 := am (Kd.R_below (by (with_reducible repeat (first | apply Ra | apply Rn | apply Rd)); exact HO105.out) hb); have HO111 := am (Kd.R_lower (Kd.R_new' ho0 (Kd.R_lt (by (with_reducible repeat (first | apply Ra | apply Rn | apply Rd)); exact HO108.out))) (below_size (by repeat (first | (with_reducible first | exact HB.out | apply lA | apply lN | apply lD) | exact HB.out)))); replace HO108 := am (Kd.R_elder' (by (with_reducible repeat (first | apply Ra | apply Rn | apply Rd)); exact HO108.out) (Kd.R_base ho0) hb); replace HB := am (below_step (by repeat (first | (with_reducible first | exact HB.out | apply lA | apply lN | apply lD) | exact HB.out)) hb); (try clear hb); (try clear hb2); (try clear hk); (try clear hi); (try clear ho0)))
  (try simp only [Act.put, List.setIfInBounds_toArray, List.set_cons_zero, List.set_cons_succ])
  go_cut [51] (fun v51 wc => ∃ (kq : Nat) (x51_9 : Bool), v51 = .bool x51_9 ∧ Aside0 (lambrequinlaw10_GraphThrough.j0 kq t101 t102 t103 (Int.tmod (wrap64 (a2)) t102) (Int.tmod (wrap64 (a3)) t102) t106 t109 x51_9 = some r) ∧ Aside0 (kq ≤ k) ∧ Aside0 (Kd.R k27 27 wc w.heap.size (fun _ => True) (.slice Ao13 t103.length co13) t103) ∧ Aside0 (Kd.R Kd.bool 4 wc w.heap.size (fun k_ => some k_ ≠ (v110 : Value).ownBlock) v107 t106) ∧ Aside0 (Kd.R Kd.bool 4 wc w.heap.size (fun k_ => some k_ ≠ (v107 : Value).ownBlock) v110 t109) ∧ Aside0 (Below w.heap.size w wc))
  case first =>
   have H := HC10.out
   clear HC10
   by_cases c16 : (t106.length : Int) = t102
   ·rw [if_pos c16] at H
    have c16b0 : ((t106.length : Int) == t102) = true := beq_iff_eq.mpr c16
    have c16b1 : ((t106.length : Int) != t102) = false := bne_eq_false_iff_eq.mpr c16
    clear c16
    (first | rw [c16b0] | (simp only [i64_w, i32_w]; rw [c16b0]) | skip)
    have H' := am H
    clear H
    obtain ⟨Ao17, co17, eo17⟩ := Kd.R_slice HO108.out
    subst eo17
    obtain ⟨Ao18, co18, eo18⟩ := Kd.R_slice HO111.out
    subst eo18
    go_wp2
    go_meet
    case rel => exact ⟨_, (((t109.length : Int) != t102)), (by first | rfl | (simp; done) | (simp [*]; done)), H', ⟨by first | omega | exact Nat.le_refl _⟩, ⟨by (with_reducible repeat (first | apply Ra | apply Rn | apply Rd)); exact HO105.out⟩, ⟨by (with_reducible repeat (first | apply Ra | apply Rn | apply Rd)); exact Kd.R_mono HO108.out (fun _ hk => hk.2)⟩, ⟨by (with_reducible repeat (first | apply Ra | apply Rn | apply Rd)); exact Kd.R_mono HO111.out (fun _ hk => hk.2)⟩, ⟨by repeat (first | (with_reducible first | exact HB.out | apply lA | apply lN | apply lD) | exact HB.out)⟩⟩
   ·rw [if_neg c16] at H
    have c16b0 : ((t106.length : Int) == t102) = false := beq_eq_false_iff_ne.mpr c16
    have c16b1 : ((t106.length : Int) != t102) = true := bne_iff_ne.mpr c16
    (first | rw [c16b0] | (simp only [i64_w, i32_w]; rw [c16b0]) | skip)
    have H' := am H
    clear H
    obtain ⟨Ao19, co19, eo19⟩ := Kd.R_slice HO108.out
    subst eo19
    go_wp2
    go_meet
    case rel => exact ⟨_, (true), (by first | rfl | (simp; done) | (simp [*]; done)), H', ⟨by first | omega | exact Nat.le_refl _⟩, ⟨by (with_reducible repeat (first | apply Ra | apply Rn | apply Rd)); exact HO105.out⟩, ⟨by (with_reducible repeat (first | apply Ra | apply Rn | apply Rd)); exact Kd.R_mono HO108.out (fun _ hk => hk.2)⟩, ⟨by (with_reducible repeat (first | apply Ra | apply Rn | apply Rd)); exact Kd.R_mono HO111.out (fun _ hk => hk.2)⟩, ⟨by repeat (first | (with_reducible first | exact HB.out | apply lA | apply lN | apply lD) | exact HB.out)⟩⟩
  case rest =>
   clear HC10
   try clear c1
   try clear c2
   try clear p2
   try clear p6
   try clear c7
   try clear c7b0
   try clear c7b1
   try clear c8
   try clear c14
   try clear c15
   try clear c16
   try clear c16b0
   try clear c16b1
   obtain ⟨kq, x51_9, rfl, HA, HJ9, HO_11, HO_14, HO_15, HB⟩ := hcut
   cases kq with
   | zero => exact absurd HA.out (by simp [lambrequinlaw10_GraphThrough.j0])
   | succ kj9 =>
    have H := HA.out
    clear HA
    simp only [lambrequinlaw10_GraphThrough.j0] at H
    by_cases c20 : x51_9 = true
    ·subst c20
     have H1 : (some false) = some r := by rw [if_pos rfl] at H; exact H
     clear H
     have H := H1
     clear H1
     obtain rfl := Option.some.inj H
     go_wp2
     go_ret
     exact ⟨by first | rfl | (simp [errW_none, errW_some] <;> rfl) | (simp [*, errW_none, errW_some] <;> rfl), by repeat (first | (with_reducible first | exact HB.out | apply lA | apply lN | apply lD) | exact HB.out)⟩
    ·replace c20 := Bool.eq_false_iff.mpr c20
     subst c20
     have H1 : (lambrequinlaw10_GraphThrough.l0 kj9 t101 t102 t103 (Int.tmod (wrap64 (a2)) t102) (Int.tmod (wrap64 (a3)) t102) t106 t109 0) = some r := by rw [if_neg (show ¬ (false = true) by decide)] at H; exact H
     clear H
     have H := H1
     clear H1
     have H' := am H
     clear H
     go_wp2
     go_loopg [16] kj9 (fun kq v16 w' => ∃ (x16_2 : Int), v16 = .int .i64 x16_2 ∧ Aside0 (lambrequinlaw10_GraphThrough.l0 kq t101 t102 t103 (Int.tmod (wrap64 (a2)) t102) (Int.tmod (wrap64 (a3)) t102) t106 t109 x16_2 = some r) ∧ Aside0 (kq ≤ kj9) ∧ Aside0 (Kd.R k27 27 w' w.heap.size (fun _ => True) (.slice Ao13 t103.length co13) t103) ∧ Aside0 (Kd.R Kd.bool 4 w' w.heap.size (fun k_ => some k_ ≠ (v110 : Value).ownBlock) v107 t106) ∧ Aside0 (Kd.R Kd.bool 4 w' w.heap.size (fun k_ => some k_ ≠ (v107 : Value).ownBlock) v110 t109) ∧ Aside0 (Below w.heap.size w w'))
     case atStart => exact ⟨(0), (by first | rfl | (simp; done) | (simp [*]; done)), H', ⟨Nat.le_refl _⟩, ⟨by (with_reducible repeat (first | apply Ra | apply Rn | apply Rd)); exact HO_11.out⟩, ⟨by (with_reducible repeat (first | apply Ra | apply Rn | apply Rd)); exact HO_14.out⟩, ⟨by (with_reducible repeat (first | apply Ra | apply Rn | apply Rd)); exact HO_15.out⟩, ⟨by repeat (first | (with_reducible first | exact HB.out | apply lA | apply lN | apply lD) | exact HB.out)⟩⟩
     case round =>
      clear H'
      try clear c1
      try clear c2
      try clear p2
      try clear p6
      try clear c7
      try clear c7b0
      try clear c7b1
      try clear c8
      try clear c14
      try clear c15
      try clear c16
      try clear c16b0
      try clear c16b1
      try clear c20
      try clear p2
      try clear p6
      obtain ⟨x16_2, rfl, HA, HK2, HO_11, HO_14, HO_15, HB⟩ := hrel
      cases gk with
      | zero => exact absurd HA.out (by simp [lambrequinlaw10_GraphThrough.l0])
      | succ k2 =>
       have H := HA.out
       clear HA
       simp only [lambrequinlaw10_GraphThrough.l0] at H
       by_cases c21 : x16_2 < t102
       ·rw [if_pos c21] at H
        have c21b0 : decide (x16_2 < t102) = true := decide_eq_true c21
        clear c21
        obtain ⟨ji22, hji22⟩ : ∃ j_ : Int, (Int.tmod (wrap64 (a3)) t102) = j_ := ⟨_, rfl⟩
        replace H : (if 0 ≤ (ji22) then (if (ji22) < (t106.length : Int) then (if rdOf false t106 (ji22) = true then (if 0 ≤ x16_2 then (if x16_2 < (t109.length : Int) then (if rdOf false t109 x16_2 = true then (if x16_2 < (t106.length : Int) then (if rdOf false t106 x16_2 = true then (lambrequinlaw10_GraphThrough.l0 k2 t101 t102 t103 (Int.tmod (wrap64 (a2)) t102) (ji22) t106 t109 (wrap64 (x16_2 + 1))) else (some false)) else (none)) else (lambrequinlaw10_GraphThrough.l0 k2 t101 t102 t103 (Int.tmod (wrap64 (a2)) t102) (ji22) t106 t109 (wrap64 (x16_2 + 1)))) else (none)) else (none)) else (lambrequinlaw10_GraphThrough.l0 k2 t101 t102 t103 (Int.tmod (wrap64 (a2)) t102) (ji22) t106 t109 (wrap64 (x16_2 + 1)))) else (none)) else (none)) = some r := by first | (rw [hji22] at H; exact H) | (simp only [hji22] at H ⊢; exact H)
        by_cases c23 : 0 ≤ (ji22)
        ·rw [if_pos c23] at H
         have c23b0 : decide (0 ≤ (ji22)) = true := decide_eq_true c23
         clear c23
         by_cases c24 : (ji22) < (t106.length : Int)
         ·rw [if_pos c24] at H
          have c24b0 : decide ((ji22) < (t106.length : Int)) = true := decide_eq_true c24
          clear c24
          obtain ⟨bq25, hbq25⟩ : ∃ b_ : Bool, b_ = (rdOf false t106 (ji22)) := ⟨_, rfl⟩
          replace H : (if bq25 = true then (if 0 ≤ x16_2 then (if x16_2 < (t109.length : Int) then (if rdOf false t109 x16_2 = true then (if x16_2 < (t106.length : Int) then (if rdOf false t106 x16_2 = true then (lambrequinlaw10_GraphThrough.l0 k2 t101 t102 t103 (Int.tmod (wrap64 (a2)) t102) (ji22) t106 t109 (wrap64 (x16_2 + 1))) else (some false)) else (none)) else (lambrequinlaw10_GraphThrough.l0 k2 t101 t102 t103 (Int.tmod (wrap64 (a2)) t102) (ji22) t106 t109 (wrap64 (x16_2 + 1)))) else (none)) else (none)) else (lambrequinlaw10_GraphThrough.l0 k2 t101 t102 t103 (Int.tmod (wrap64 (a2)) t102) (ji22) t106 t109 (wrap64 (x16_2 + 1)))) = some r := by rw [← hbq25] at H; exact H
          have Nbq25 := am hbq25
          clear hbq25
          by_cases c26 : bq25 = true
          ·subst c26
           have H1 : (if 0 ≤ x16_2 then (if x16_2 < (t109.length : Int) then (if rdOf false t109 x16_2 = true then (if x16_2 < (t106.length : Int) then (if rdOf false t106 x16_2 = true then (lambrequinlaw10_GraphThrough.l0 k2 t101 t102 t103 (Int.tmod (wrap64 (a2)) t102) (ji22) t106 t109 (wrap64 (x16_2 + 1))) else (some false)) else (none)) else (lambrequinlaw10_GraphThrough.l0 k2 t101 t102 t103 (Int.tmod (wrap64 (a2)) t102) (ji22) t106 t109 (wrap64 (x16_2 + 1)))) else (none)) else (none)) = some r := by rw [if_pos rfl] at H; exact H
           clear H
           have H := H1
           clear H1
           by_cases c27 : 0 ≤ x16_2
           ·rw [if_pos c27] at H
            have c27b0 : decide (0 ≤ x16_2) = true := decide_eq_true c27
            clear c27
            by_cases c28 : x16_2 < (t109.length : Int)
            ·rw [if_pos c28] at H
             have c28b0 : decide (x16_2 < (t109.length : Int)) = true := decide_eq_true c28
             clear c28
             obtain ⟨bq29, hbq29⟩ : ∃ b_ : Bool, b_ = (rdOf false t109 x16_2) := ⟨_, rfl⟩
             replace H : (if bq29 = true then (if x16_2 < (t106.length : Int) then (if rdOf false t106 x16_2 = true then (lambrequinlaw10_GraphThrough.l0 k2 t101 t102 t103 (Int.tmod (wrap64 (a2)) t102) (ji22) t106 t109 (wrap64 (x16_2 + 1))) else (some false)) else (none)) else (lambrequinlaw10_GraphThrough.l0 k2 t101 t102 t103 (Int.tmod (wrap64 (a2)) t102) (ji22) t106 t109 (wrap64 (x16_2 + 1)))) = some r := by rw [← hbq29] at H; exact H
             have Nbq29 := am hbq29
             clear hbq29
             by_cases c30 : bq29 = true
             ·subst c30
              have H1 : (if x16_2 < (t106.length : Int) then (if rdOf false t106 x16_2 = true then (lambrequinlaw10_GraphThrough.l0 k2 t101 t102 t103 (Int.tmod (wrap64 (a2)) t102) (ji22) t106 t109 (wrap64 (x16_2 + 1))) else (some false)) else (none)) = some r := by rw [if_pos rfl] at H; exact H
              clear H
              have H := H1
              clear H1
              by_cases c31 : x16_2 < (t106.length : Int)
              ·rw [if_pos c31] at H
               have c31b0 : decide (x16_2 < (t106.length : Int)) = true := decide_eq_true c31
               clear c31
               obtain ⟨bq32, hbq32⟩ : ∃ b_ : Bool, b_ = (rdOf false t106 x16_2) := ⟨_, rfl⟩
               replace H : (if bq32 = true then (lambrequinlaw10_GraphThrough.l0 k2 t101 t102 t103 (Int.tmod (wrap64 (a2)) t102) (ji22) t106 t109 (wrap64 (x16_2 + 1))) else (some false)) = some r := by rw [← hbq32] at H; exact H
               have Nbq32 := am hbq32
               clear hbq32
               by_cases c33 : bq32 = true
               ·subst c33
                have H1 : (lambrequinlaw10_GraphThrough.l0 k2 t101 t102 t103 (Int.tmod (wrap64 (a2)) t102) (ji22) t106 t109 (wrap64 (x16_2 + 1))) = some r := by rw [if_pos rfl] at H; exact H
                clear H
                have H := H1
                clear H1
                have H' := am H
                clear H
                obtain ⟨Ao34, co34, eo34⟩ := Kd.R_slice HO_14.out
                subst eo34
                have p112 : 0 ≤ ((ji22) : Int) := of_decide_eq_true (by first | (with_reducible assumption) | assumption)
                have q112 : (ji22) < (t106.length : Int) := of_decide_eq_true (by first | (with_reducible assumption) | assumption)
                obtain ⟨ad112, e112, hx112_0⟩ := Kd.at_bool (Kd.R_reads' HO_14.out).2.2 (ji22) p112 q112
                (try rw [← Nbq25.out] at hx112_0)
                (try rw [← Nbq29.out] at hx112_0)
                (try rw [← Nbq32.out] at hx112_0)
                cases e112
                replace p112 := eq_true p112
                replace q112 := eq_true q112
                obtain ⟨Ao35, co35, eo35⟩ := Kd.R_slice HO_15.out
                subst eo35
                have p113 : 0 ≤ (x16_2 : Int) := of_decide_eq_true (by first | (with_reducible assumption) | assumption)
                have q113 : x16_2 < (t109.length : Int) := of_decide_eq_true (by first | (with_reducible assumption) | assumption)
                obtain ⟨ad113, e113, hx113_0⟩ := Kd.at_bool (Kd.R_reads' HO_15.out).2.2 x16_2 p113 q113
                (try rw [← Nbq25.out] at hx113_0)
                (try rw [← Nbq29.out] at hx113_0)
                (try rw [← Nbq32.out] at hx113_0)
                cases e113
                replace p113 := eq_true p113
                replace q113 := eq_true q113
                have p114 : 0 ≤ (x16_2 : Int) := of_decide_eq_true (by first | (with_reducible assumption) | assumption)
                have q114 : x16_2 < (t106.length : Int) := of_decide_eq_true (by first | (with_reducible assumption) | assumption)
                obtain ⟨ad114, e114, hx114_0⟩ := Kd.at_bool (Kd.R_reads' HO_14.out).2.2 x16_2 p114 q114
                (try rw [← Nbq25.out] at hx114_0)
                (try rw [← Nbq29.out] at hx114_0)
                (try rw [← Nbq32.out] at hx114_0)
                obtain rfl : ad112 = ad114 := (by injection e114)
                replace p114 := eq_true p114
                replace q114 := eq_true q114
                go_wp2
                try subst hji22
                go_roundg k2
                case measure => have := HJ9.out; have := HK2.out; omega
                case rel => (try subst hji22); exact ⟨(wrap64 (x16_2 + 1)), (by first | rfl | (simp; done) | (simp [*]; done)), H', ⟨by have := HJ9.out; have := HK2.out; omega⟩, ⟨by (with_reducible repeat (first | apply Ra | apply Rn | apply Rd)); exact HO_11.out⟩, ⟨by (with_reducible repeat (first | apply Ra | apply Rn | apply Rd)); exact HO_14.out⟩, ⟨by (with_reducible repeat (first | apply Ra | apply Rn | apply Rd)); exact HO_15.out⟩, ⟨by repeat (first | (with_reducible first | exact HB.out | apply lA | apply lN | apply lD) | exact HB.out)⟩⟩
               ·replace c33 := Bool.eq_false_iff.mpr c33
                subst c33
                have H1 : (some false) = some r := by rw [if_neg (show ¬ (false = true) by decide)] at H; exact H
                clear H
                have H := H1
                clear H1
                obtain rfl := Option.some.inj H
                obtain ⟨Ao36, co36, eo36⟩ := Kd.R_slice HO_14.out
                subst eo36
                have p112 : 0 ≤ ((ji22) : Int) := of_decide_eq_true (by first | (with_reducible assumption) | assumption)
                have q112 : (ji22) < (t106.length : Int) := of_decide_eq_true (by first | (with_reducible assumption) | assumption)
                obtain ⟨ad112, e112, hx112_0⟩ := Kd.at_bool (Kd.R_reads' HO_14.out).2.2 (ji22) p112 q112
                (try rw [← Nbq25.out] at hx112_0)
                (try rw [← Nbq29.out] at hx112_0)
                (try rw [← Nbq32.out] at hx112_0)
                cases e112
                replace p112 := eq_true p112
                replace q112 := eq_true q112
                obtain ⟨Ao37, co37, eo37⟩ := Kd.R_slice HO_15.out
                subst eo37
                have p113 : 0 ≤ (x16_2 : Int) := of_decide_eq_true (by first | (with_reducible assumption) | assumption)
                have q113 : x16_2 < (t109.length : Int) := of_decide_eq_true (by first | (with_reducible assumption) | assumption)
                obtain ⟨ad113, e113, hx113_0⟩ := Kd.at_bool (Kd.R_reads' HO_15.out).2.2 x16_2 p113 q113
                (try rw [← Nbq25.out] at hx113_0)
                (try rw [← Nbq29.out] at hx113_0)
                (try rw [← Nbq32.out] at hx113_0)
                cases e113
                replace p113 := eq_true p113
                replace q113 := eq_true q113
                have p114 : 0 ≤ (x16_2 : Int) := of_decide_eq_true (by first | (with_reducible assumption) | assumption)
                have q114 : x16_2 < (t106.length : Int) := of_decide_eq_true (by first | (with_reducible assumption) | assumption)
                obtain ⟨ad114, e114, hx114_0⟩ := Kd.at_bool (Kd.R_reads' HO_14.out).2.2 x16_2 p114 q114
                (try rw [← Nbq25.out] at hx114_0)
                (try rw [← Nbq29.out] at hx114_0)
                (try rw [← Nbq32.out] at hx114_0)
                obtain rfl : ad112 = ad114 := (by injection e114)
                replace p114 := eq_true p114
                replace q114 := eq_true q114
                go_wp2
                go_ret
                exact ⟨by first | rfl | (simp [errW_none, errW_some] <;> rfl) | (simp only [← hji22]; first | rfl | (simp [errW_none, errW_some] <;> rfl)) | (simp [*, errW_none, errW_some] <;> rfl), by repeat (first | (with_reducible first | exact HB.out | apply lA | apply lN | apply lD) | exact HB.out)⟩
              ·rw [if_neg c31] at H
               exact absurd H (by simp)
             ·replace c30 := Bool.eq_false_iff.mpr c30
              subst c30
              have H1 : (lambrequinlaw10_GraphThrough.l0 k2 t101 t102 t103 (Int.tmod (wrap64 (a2)) t102) (ji22) t106 t109 (wrap64 (x16_2 + 1))) = some r := by rw [if_neg (show ¬ (false = true) by decide)] at H; exact H
              clear H
              have H := H1
              clear H1
              have H' := am H
              clear H
              obtain ⟨Ao38, co38, eo38⟩ := Kd.R_slice HO_14.out
              subst eo38
              have p112 : 0 ≤ ((ji22) : Int) := of_decide_eq_true (by first | (with_reducible assumption) | assumption)
              have q112 : (ji22) < (t106.length : Int) := of_decide_eq_true (by first | (with_reducible assumption) | assumption)
              obtain ⟨ad112, e112, hx112_0⟩ := Kd.at_bool (Kd.R_reads' HO_14.out).2.2 (ji22) p112 q112
              (try rw [← Nbq25.out] at hx112_0)
              (try rw [← Nbq29.out] at hx112_0)
              cases e112
              replace p112 := eq_true p112
              replace q112 := eq_true q112
              obtain ⟨Ao39, co39, eo39⟩ := Kd.R_slice HO_15.out
              subst eo39
              have p113 : 0 ≤ (x16_2 : Int) := of_decide_eq_true (by first | (with_reducible assumption) | assumption)
              have q113 : x16_2 < (t109.length : Int) := of_decide_eq_true (by first | (with_reducible assumption) | assumption)
              obtain ⟨ad113, e113, hx113_0⟩ := Kd.at_bool (Kd.R_reads' HO_15.out).2.2 x16_2 p113 q113
              (try rw [← Nbq25.out] at hx113_0)
              (try rw [← Nbq29.out] at hx113_0)
              cases e113
              replace p113 := eq_true p113
              replace q113 := eq_true q113
              go_wp2
              try subst hji22
              go_roundg k2
              case measure => have := HJ9.out; have := HK2.out; omega
              case rel => (try subst hji22); exact ⟨(wrap64 (x16_2 + 1)), (by first | rfl | (simp; done) | (simp [*]; done)), H', ⟨by have := HJ9.out; have := HK2.out; omega⟩, ⟨by (with_reducible repeat (first | apply Ra | apply Rn | apply Rd)); exact HO_11.out⟩, ⟨by (with_reducible repeat (first | apply Ra | apply Rn | apply Rd)); exact HO_14.out⟩, ⟨by (with_reducible repeat (first | apply Ra | apply Rn | apply Rd)); exact HO_15.out⟩, ⟨by repeat (first | (with_reducible first | exact HB.out | apply lA | apply lN | apply lD) | exact HB.out)⟩⟩
            ·rw [if_neg c28] at H
             exact absurd H (by simp)
           ·rw [if_neg c27] at H
            exact absurd H (by simp)
          ·replace c26 := Bool.eq_false_iff.mpr c26
           subst c26
           have H1 : (lambrequinlaw10_GraphThrough.l0 k2 t101 t102 t103 (Int.tmod (wrap64 (a2)) t102) (ji22) t106 t109 (wrap64 (x16_2 + 1))) = some r := by rw [if_neg (show ¬ (false = true) by decide)] at H; exact H
           clear H
           have H := H1
           clear H1
           have H' := am H
           clear H
           obtain ⟨Ao40, co40, eo40⟩ := Kd.R_slice HO_14.out
           subst eo40
           have p112 : 0 ≤ ((ji22) : Int) := of_decide_eq_true (by first | (with_reducible assumption) | assumption)
           have q112 : (ji22) < (t106.length : Int) := of_decide_eq_true (by first | (with_reducible assumption) | assumption)
           obtain ⟨ad112, e112, hx112_0⟩ := Kd.at_bool (Kd.R_reads' HO_14.out).2.2 (ji22) p112 q112
           (try rw [← Nbq25.out] at hx112_0)
           cases e112
           replace p112 := eq_true p112
           replace q112 := eq_true q112
           go_wp2
           try subst hji22
           go_roundg k2
           case measure => have := HJ9.out; have := HK2.out; omega
           case rel => (try subst hji22); exact ⟨(wrap64 (x16_2 + 1)), (by first | rfl | (simp; done) | (simp [*]; done)), H', ⟨by have := HJ9.out; have := HK2.out; omega⟩, ⟨by (with_reducible repeat (first | apply Ra | apply Rn | apply Rd)); exact HO_11.out⟩, ⟨by (with_reducible repeat (first | apply Ra | apply Rn | apply Rd)); exact HO_14.out⟩, ⟨by (with_reducible repeat (first | apply Ra | apply Rn | apply Rd)); exact HO_15.out⟩, ⟨by repeat (first | (with_reducible first | exact HB.out | apply lA | apply lN | apply lD) | exact HB.out)⟩⟩
         ·rw [if_neg c24] at H
          exact absurd H (by simp)
        ·rw [if_neg c23] at H
         exact absurd H (by simp)
       ·rw [if_neg c21] at H
        have c21b0 : decide (x16_2 < t102) = false := decide_eq_false c21
        clear c21
        replace H := Option.bind_eq_some_iff.mp H
        obtain ⟨t115, A410, H⟩ := H
        replace H : (lambrequinlaw10_GraphThrough.l1 k2 t101 t102 t103 (Int.tmod (wrap64 (a2)) t102) (Int.tmod (wrap64 (a3)) t102) t115 0) = some r := H
        have A41 := am A410
        clear A410
        have H' := am H
        clear H
        go_wp2_with (first | ((with_reducible refine gate_callee (f := 20) rfl ?_); refine goesL_ (some 78) rfl rfl Try.func20 (by kernel_rfl) rfl #[.int .i64 t102, .slice Ao13 t103.length co13, .int .i64 (Int.tmod (wrap64 (a2)) t102), .int .i64 (Int.tmod (wrap64 (a3)) t102)] rfl (by (try simp only [List.map_toArray, List.map_cons, List.map_nil]); first | done | rfl | (simp only [List.length_drop, List.length_take]; rfl)) ?_; (with_reducible refine (graph_Path.calls k2 t102 _ _ t103 (Int.tmod (wrap64 (a2)) t102) (Int.tmod (wrap64 (a3)) t102) t115 _ ?side1 ?side2 A41.out).mono ?_); (case side1 => repeat (first | exact (Kd.R_reads' HO_11.out).2.2 | (with_reducible refine Kd.C_alloc ?_ _) | (with_reducible refine Kd.C_drewN ?_ _) | (with_reducible refine Kd.C_drew ?_))); (case side2 => exact (Kd.R_reads' HO_11.out).2.1); rintro e w42 ⟨v116, rfl, ho0, hb⟩; refine ⟨_, rfl, ?_⟩; replace HO_11 := am (Kd.R_below (by (with_reducible repeat (first | apply Ra | apply Rn | apply Rd)); exact HO_11.out) hb); replace HO_14 := am (Kd.R_below (by (with_reducible repeat (first | apply Ra | apply Rn | apply Rd)); exact HO_14.out) hb); replace HO_15 := am (Kd.R_below (by (with_reducible repeat (first | apply Ra | apply Rn | apply Rd)); exact HO_15.out) hb); have HO117 := am (Kd.R_lower ho0 (below_size (by repeat (first | (with_reducible first | exact HB.out | apply lA | apply lN | apply lD) | exact HB.out)))); replace HB := am (below_step (by repeat (first | (with_reducible first | exact HB.out | apply lA | apply lN | apply lD) | exact HB.out)) hb); (try clear hb); (try clear hb2); (try clear hk); (try clear hi); (try clear ho0)))
        go_loopg [18] k2 (fun kq v18 w' => ∃ (x18_3 : Int), v18 = .int .i64 x18_3 ∧ Aside0 (lambrequinlaw10_GraphThrough.l1 kq t101 t102 t103 (Int.tmod (wrap64 (a2)) t102) (Int.tmod (wrap64 (a3)) t102) t115 x18_3 = some r) ∧ Aside0 (kq ≤ k2) ∧ Aside0 (Kd.R k27 27 w' w.heap.size (fun _ => True) (.slice Ao13 t103.length co13) t103) ∧ Aside0 (Kd.R (Kd.int .i64) 3 w' w.heap.size (fun _ => True) v116 t115) ∧ Aside0 (Below w.heap.size w w'))
        case atStart => exact ⟨(0), (by first | rfl | (simp; done) | (simp [*]; done)), H', ⟨Nat.le_refl _⟩, ⟨by (with_reducible repeat (first | apply Ra | apply Rn | apply Rd)); exact HO_11.out⟩, ⟨by (with_reducible repeat (first | apply Ra | apply Rn | apply Rd)); exact HO117.out⟩, ⟨by repeat (first | (with_reducible first | exact HB.out | apply lA | apply lN | apply lD) | exact HB.out)⟩⟩
        case round =>
         clear H'
         try clear c1
         try clear p1
         try clear q1
         try clear hx1
         try clear c2
         try clear p2
         try clear q2
         try clear c3
         try clear q3
         try clear p6
         try clear c7
         try clear c7b0
         try clear c7b1
         try clear c8
         try clear p11
         try clear q11
         try clear hx11
         try clear c14
         try clear c15
         try clear c16
         try clear c16b0
         try clear c16b1
         try clear c20
         try clear c21
         try clear c21b0
         try clear c22
         try clear c23
         try clear c23b0
         try clear c24
         try clear c24b0
         try clear q25
         try clear c26
         try clear c27
         try clear c27b0
         try clear c28
         try clear c28b0
         try clear q29
         try clear c30
         try clear c31
         try clear c31b0
         try clear q32
         try clear c33
         try clear hx112_0
         try clear hx113_0
         try clear hx114_0
         try clear p112
         try clear p113
         try clear p114
         try clear p2
         try clear p6
         try clear q112
         try clear q113
         try clear q114
         obtain ⟨x18_3, rfl, HA, HK3, HO_11, HO_17, HB⟩ := hrel
         cases gk with
         | zero => exact absurd HA.out (by simp [lambrequinlaw10_GraphThrough.l1])
         | succ k3 =>
          have H := HA.out
          clear HA
          simp only [lambrequinlaw10_GraphThrough.l1] at H
          by_cases c43 : x18_3 < (t115.length : Int)
          ·rw [if_pos c43] at H
           have c43b0 : decide (x18_3 < (t115.length : Int)) = true := decide_eq_true c43
           clear c43
           have HC44 := am H
           clear H
           obtain ⟨Ao45, co45, eo45⟩ := Kd.R_slice HO_17.out
           subst eo45
           go_upto_region 18 with (fail)
           go_cut [97] (fun v97 wc => ∃ (kq : Nat) (x97_43 : Bool), v97 = .bool x97_43 ∧ Aside0 (lambrequinlaw10_GraphThrough.j3 kq t101 t102 t103 (Int.tmod (wrap64 (a2)) t102) (Int.tmod (wrap64 (a3)) t102) t115 x18_3 x97_43 = some r) ∧ Aside0 (kq ≤ k3) ∧ Aside0 (Kd.R k27 27 wc w.heap.size (fun _ => True) (.slice Ao13 t103.length co13) t103) ∧ Aside0 (Kd.R (Kd.int .i64) 3 wc w.heap.size (fun _ => True) (.slice Ao45 t115.length co45) t115) ∧ Aside0 (Below w.heap.size w wc))
           case first =>
            have H := HC44.out
            clear HC44
            by_cases c46 : 0 ≤ x18_3
            ·rw [if_pos c46] at H
             have c46b0 : decide (0 ≤ x18_3) = true := decide_eq_true c46
             clear c46
             (first | rw [c46b0] | (simp only [i64_w, i32_w]; rw [c46b0]) | skip)
             by_cases c47 : (rd t115 x18_3) < 0
             ·rw [if_pos c47] at H
              have c47b0 : decide ((rd t115 x18_3) < 0) = true := decide_eq_true c47
              clear c47
              have H' := am H
              clear H
              have p118 : 0 ≤ (x18_3 : Int) := of_decide_eq_true (by first | (with_reducible assumption) | assumption)
              have q118 : x18_3 < (t115.length : Int) := of_decide_eq_true (by first | (with_reducible assumption) | assumption)
              obtain ⟨ad118, e118, hx118_0⟩ := Kd.at_int (Kd.R_reads' HO_17.out).2.2 x18_3 p118 q118
              cases e118
              replace p118 := eq_true p118
              replace q118 := eq_true q118
              go_wp2
              go_meet
              case rel => exact ⟨_, (true), (by first | rfl | (simp; done) | (simp [*]; done)), H', ⟨by have := HJ9.out; have := HK2.out; have := HK3.out; first | omega | exact Nat.le_refl _⟩, ⟨by (with_reducible repeat (first | apply Ra | apply Rn | apply Rd)); exact HO_11.out⟩, ⟨by (with_reducible repeat (first | apply Ra | apply Rn | apply Rd)); exact HO_17.out⟩, ⟨by repeat (first | (with_reducible first | exact HB.out | apply lA | apply lN | apply lD) | exact HB.out)⟩⟩
             ·rw [if_neg c47] at H
              have c47b0 : decide ((rd t115 x18_3) < 0) = false := decide_eq_false c47
              clear c47
              have H' := am H
              clear H
              have p118 : 0 ≤ (x18_3 : Int) := of_decide_eq_true (by first | (with_reducible assumption) | assumption)
              have q118 : x18_3 < (t115.length : Int) := of_decide_eq_true (by first | (with_reducible assumption) | assumption)
              obtain ⟨ad118, e118, hx118_0⟩ := Kd.at_int (Kd.R_reads' HO_17.out).2.2 x18_3 p118 q118
              cases e118
              replace p118 := eq_true p118
              replace q118 := eq_true q118
              have p119 : 0 ≤ (x18_3 : Int) := of_decide_eq_true (by first | (with_reducible assumption) | assumption)
              have q119 : x18_3 < (t115.length : Int) := of_decide_eq_true (by first | (with_reducible assumption) | assumption)
              obtain ⟨ad119, e119, hx119_0⟩ := Kd.at_int (Kd.R_reads' HO_17.out).2.2 x18_3 p119 q119
              obtain rfl : ad118 = ad119 := (by injection e119)
              replace p119 := eq_true p119
              replace q119 := eq_true q119
              go_wp2
              go_meet
              case rel => exact ⟨_, (decide ((rd t115 x18_3) ≥ t102)), (by first | rfl | (simp; done) | (simp [*]; done)), H', ⟨by have := HJ9.out; have := HK2.out; have := HK3.out; first | omega | exact Nat.le_refl _⟩, ⟨by (with_reducible repeat (first | apply Ra | apply Rn | apply Rd)); exact HO_11.out⟩, ⟨by (with_reducible repeat (first | apply Ra | apply Rn | apply Rd)); exact HO_17.out⟩, ⟨by repeat (first | (with_reducible first | exact HB.out | apply lA | apply lN | apply lD) | exact HB.out)⟩⟩
            ·rw [if_neg c46] at H
             exact absurd H (by simp)
           case rest =>
            clear HC44
            try clear c1
            try clear p1
            try clear q1
            try clear hx1
            try clear c2
            try clear p2
            try clear q2
            try clear c3
            try clear q3
            try clear c4
            try clear p6
            try clear c7
            try clear c7b0
            try clear c7b1
            try clear c8
            try clear p11
            try clear q11
            try clear hx11
            try clear c14
            try clear c15
            try clear c16
            try clear c16b0
            try clear c16b1
            try clear c20
            try clear c21
            try clear c21b0
            try clear c22
            try clear c23
            try clear c23b0
            try clear c24
            try clear c24b0
            try clear q25
            try clear c26
            try clear c27
            try clear c27b0
            try clear c28
            try clear c28b0
            try clear q29
            try clear c30
            try clear c31
            try clear c31b0
            try clear q32
            try clear c33
            try clear c43
            try clear c43b0
            try clear c46
            try clear c46b0
            try clear c47
            try clear c47b0
            try clear hx112_0
            try clear hx113_0
            try clear hx114_0
            try clear hx118_0
            try clear hx119_0
            try clear p1
            try clear p11
            try clear p112
            try clear p113
            try clear p114
            try clear p118
            try clear p119
            try clear p2
            try clear p6
            try clear q1
            try clear q11
            try clear q112
            try clear q113
            try clear q114
            try clear q118
            try clear q119
            try clear q2
            try clear q25
            try clear q29
            try clear q3
            try clear q32
            obtain ⟨kq, x97_43, rfl, HA, HJ43, HO_11, HO_17, HB⟩ := hcut
            cases kq with
            | zero => exact absurd HA.out (by simp [lambrequinlaw10_GraphThrough.j3])
            | succ kj43 =>
             have H := HA.out
             clear HA
             simp only [lambrequinlaw10_GraphThrough.j3] at H
             by_cases c48 : x97_43 = true
             ·subst c48
              have H1 : (some false) = some r := by rw [if_pos rfl] at H; exact H
              clear H
              have H := H1
              clear H1
              obtain rfl := Option.some.inj H
              go_wp2
              go_ret
              exact ⟨by first | rfl | (simp [errW_none, errW_some] <;> rfl) | (simp [*, errW_none, errW_some] <;> rfl), by repeat (first | (with_reducible first | exact HB.out | apply lA | apply lN | apply lD) | exact HB.out)⟩
             ·replace c48 := Bool.eq_false_iff.mpr c48
              subst c48
              have H1 : (if 0 ≤ x18_3 then (if x18_3 < (t115.length : Int) then ((graph_Path.f kj43 t102 t103 (Int.tmod (wrap64 (a2)) t102) (rd t115 x18_3)).bind fun t121 => (if 0 ≤ (wrap64 (x18_3 + 1)) then (if (wrap64 (x18_3 + 1)) ≤ (t115.length : Int) then ((lambrequinref10_Ints.f kj43 t121 (t115.take ((wrap64 (x18_3 + 1)) : Int).toNat)).bind fun t128 => (if t128 = true then ((graph_Path.f kj43 t102 t103 (rd t115 x18_3) (Int.tmod (wrap64 (a3)) t102)).bind fun t130 => (if (t130.length : Int) = (wrap64 ((t115.length : Int) - x18_3)) then (lambrequinlaw10_GraphThrough.l1 kj43 t101 t102 t103 (Int.tmod (wrap64 (a2)) t102) (Int.tmod (wrap64 (a3)) t102) t115 (wrap64 (x18_3 + 1))) else (some false))) else (some false))) else (none)) else (none))) else (none)) else (none)) = some r := by rw [if_neg (show ¬ (false = true) by decide)] at H; exact H
              clear H
              have H := H1
              clear H1
              by_cases c49 : 0 ≤ x18_3
              ·rw [if_pos c49] at H
               have c49b0 : decide (0 ≤ x18_3) = true := decide_eq_true c49
               clear c49
               by_cases c50 : x18_3 < (t115.length : Int)
               ·rw [if_pos c50] at H
                have c50b0 : decide (x18_3 < (t115.length : Int)) = true := decide_eq_true c50
                clear c50
                replace H := Option.bind_eq_some_iff.mp H
                obtain ⟨t121, A510, H⟩ := H
                replace H : (if 0 ≤ (wrap64 (x18_3 + 1)) then (if (wrap64 (x18_3 + 1)) ≤ (t115.length : Int) then ((lambrequinref10_Ints.f kj43 t121 (t115.take ((wrap64 (x18_3 + 1)) : Int).toNat)).bind fun t128 => (if t128 = true then ((graph_Path.f kj43 t102 t103 (rd t115 x18_3) (Int.tmod (wrap64 (a3)) t102)).bind fun t130 => (if (t130.length : Int) = (wrap64 ((t115.length : Int) - x18_3)) then (lambrequinlaw10_GraphThrough.l1 kj43 t101 t102 t103 (Int.tmod (wrap64 (a2)) t102) (Int.tmod (wrap64 (a3)) t102) t115 (wrap64 (x18_3 + 1))) else (some false))) else (some false))) else (none)) else (none)) = some r := H
                have A51 := am A510
                clear A510
                obtain ⟨ji52, hji52⟩ : ∃ j_ : Int, (wrap64 (x18_3 + 1)) = j_ := ⟨_, rfl⟩
                replace H : (if 0 ≤ (ji52) then (if (ji52) ≤ (t115.length : Int) then ((lambrequinref10_Ints.f kj43 t121 (t115.take ((ji52) : Int).toNat)).bind fun t128 => (if t128 = true then ((graph_Path.f kj43 t102 t103 (rd t115 x18_3) (Int.tmod (wrap64 (a3)) t102)).bind fun t130 => (if (t130.length : Int) = (wrap64 ((t115.length : Int) - x18_3)) then (lambrequinlaw10_GraphThrough.l1 kj43 t101 t102 t103 (Int.tmod (wrap64 (a2)) t102) (Int.tmod (wrap64 (a3)) t102) t115 ji52) else (some false))) else (some false))) else (none)) else (none)) = some r := by first | (rw [hji52] at H; exact H) | (simp only [hji52] at H ⊢; exact H)
                (try rw [hji52] at A51)
                have hji52w : (IntKind.i64.wrap (x18_3 + 1)) = ji52 := (i64_w _).trans hji52
                by_cases c53 : 0 ≤ (ji52)
                ·rw [if_pos c53] at H
                 have c53b0 := eq_true c53
                 have c53b1 : decide (0 ≤ (ji52)) = true := decide_eq_true c53
                 clear c53
                 by_cases c54 : (ji52) ≤ (t115.length : Int)
                 ·rw [if_pos c54] at H
                  have c54b0 := eq_true c54
                  have c54b1 : decide ((ji52) ≤ (t115.length : Int)) = true := decide_eq_true c54
                  clear c54
                  obtain ⟨y124, hy124⟩ : ∃ y_ : List Int, y_ = (t115.take ((ji52) : Int).toNat) := ⟨_, rfl⟩
                  replace H : ((lambrequinref10_Ints.f kj43 t121 y124).bind fun t128 => (if t128 = true then ((graph_Path.f kj43 t102 t103 (rd t115 x18_3) (Int.tmod (wrap64 (a3)) t102)).bind fun t130 => (if (t130.length : Int) = (wrap64 ((t115.length : Int) - x18_3)) then (lambrequinlaw10_GraphThrough.l1 kj43 t101 t102 t103 (Int.tmod (wrap64 (a2)) t102) (Int.tmod (wrap64 (a3)) t102) t115 ji52) else (some false))) else (some false))) = some r := by first | (rw [hy124]; with_reducible exact H) | (have H2_ := (Option.bind_some _ _).symm.trans H; rw [hy124]; with_reducible exact H2_) | (have H2_ := (Option.bind_some _ _).symm.trans H; with_reducible exact H2_) | with_reducible exact H | (rw [hy124]; exact H) | exact H
                  have Ny124 := am hy124
                  clear hy124
                  replace H := Option.bind_eq_some_iff.mp H
                  obtain ⟨t128, A550, H⟩ := H
                  replace H : (if t128 = true then ((graph_Path.f kj43 t102 t103 (rd t115 x18_3) (Int.tmod (wrap64 (a3)) t102)).bind fun t130 => (if (t130.length : Int) = (wrap64 ((t115.length : Int) - x18_3)) then (lambrequinlaw10_GraphThrough.l1 kj43 t101 t102 t103 (Int.tmod (wrap64 (a2)) t102) (Int.tmod (wrap64 (a3)) t102) t115 ji52) else (some false))) else (some false)) = some r := H
                  have A55 := am A550
                  clear A550
                  by_cases c56 : t128 = true
                  ·subst c56
                   have H1 : ((graph_Path.f kj43 t102 t103 (rd t115 x18_3) (Int.tmod (wrap64 (a3)) t102)).bind fun t130 => (if (t130.length : Int) = (wrap64 ((t115.length : Int) - x18_3)) then (lambrequinlaw10_GraphThrough.l1 kj43 t101 t102 t103 (Int.tmod (wrap64 (a2)) t102) (Int.tmod (wrap64 (a3)) t102) t115 ji52) else (some false))) = some r := by rw [if_pos rfl] at H; exact H
                   clear H
                   have H := H1
                   clear H1
                   replace H := Option.bind_eq_some_iff.mp H
                   obtain ⟨t130, A570, H⟩ := H
                   replace H : (if (t130.length : Int) = (wrap64 ((t115.length : Int) - x18_3)) then (lambrequinlaw10_GraphThrough.l1 kj43 t101 t102 t103 (Int.tmod (wrap64 (a2)) t102) (Int.tmod (wrap64 (a3)) t102) t115 ji52) else (some false)) = some r := H
                   have A57 := am A570
                   clear A570
                   try go_wp2
                   replace HO_11 := am (Kd.R_drew HO_11.out)
                   replace HO_17 := am (Kd.R_drew HO_17.out)
                   replace HB := am (below_drew1 HB.out)
                   have p120 : 0 ≤ (x18_3 : Int) := of_decide_eq_true (by first | (with_reducible assumption) | assumption)
                   have q120 : x18_3 < (t115.length : Int) := of_decide_eq_true (by first | (with_reducible assumption) | assumption)
                   obtain ⟨ad120, e120, hx120_0⟩ := Kd.at_int (Kd.R_reads' HO_17.out).2.2 x18_3 p120 q120
                   cases e120
                   replace p120 := eq_true p120
                   replace q120 := eq_true q120
                   have q60 : ((ji52) : Int) ≤ ((t115.length : Int) : Int) := of_decide_eq_true (by first | (with_reducible assumption) | assumption)
                   obtain ⟨i060, hi060, _, hsz60, _⟩ := info_parts info3
                   have hroom60 : t115.length ≤ co45 := (Kd.R_reads' HO_17.out).2.1
                   have hC60 : Kd.C (Kd.int .i64) _ (some ad120) t115.length t115 := (Kd.R_reads' HO_17.out).2.2
                   have hcut60 := cut_to (P := Try.prog) 35 3 .i64 Try.underlying35 hi060 (some ad120) t115.length co45 (ji52) (of_decide_eq_true (by first | (with_reducible assumption) | assumption)) q60 hroom60
                   have hr60 := Kd.C_take (m := ((ji52) : Int).toNat) hC60 (by omega)
                   have hy60 : y124.length = ((ji52) : Int).toNat := (by rw [Ny124.out, List.length_take]; omega)
                   rw [← Ny124.out] at hr60
                   rw [← hy60] at hcut60
                   have HR127 := am hr60
                   have HC127 := am (show y124.length ≤ co45 from by omega)
                   clear hr60 hC60 hroom60 hi060 hsz60
                   have KY60 := am hy60
                   clear hy60
                   have KL60 := am (show ((ji52) : Int).toNat ≤ t115.length from by omega)
                   replace q60 := eq_true q60
                   have p129 : 0 ≤ (x18_3 : Int) := of_decide_eq_true (by first | (with_reducible assumption) | assumption)
                   have q129 : x18_3 < (t115.length : Int) := of_decide_eq_true (by first | (with_reducible assumption) | assumption)
                   obtain ⟨ad129, e129, hx129_0⟩ := Kd.at_int (Kd.R_reads' HO_17.out).2.2 x18_3 p129 q129
                   obtain rfl : ad120 = ad129 := (by injection e129)
                   replace p129 := eq_true p129
                   replace q129 := eq_true q129
                   refine start_ (n := 30) (S := fun w' => w'.cell? (ad120.add (x18_3).toNat) = some (.int .i64 (rd t115 x18_3)) ∧ w'.cell? (ad120.add (x18_3).toNat) = some (.int .i64 (rd t115 x18_3))) (ds := []) (bl 30 0) (by kernel_rfl) rfl rfl ⟨hx120_0, hx129_0⟩ (fun hHeld => ?_); refine with_tabW lambrequinlaw10_GraphThrough.tab20 lambrequinlaw10_GraphThrough.bits20 (fun HT_ HW_ => ?_)
                   generalize wc.drew = w59 at HO_11 HO_17 HB HR127 hx120_0 hx129_0 hHeld ⊢
                   refine pure_ (i := 0) (N := some 98) (v := ?_) (a' := ?_) (bl 30 1) rfl rfl (any_of HT_.out (by kernel_rfl)) (fun _ _ _ h => h) (Or.inl ⟨by rfl, ?_⟩) ?_ ?_
                   rotate_left
                   ·intro w'
                    go_simp
                    with_reducible rfl
                   rotate_left
                   ·simp only [Act.put, sA, sZ, sS, i64_w, i32_w]
                    rfl
                   refine pure_ (i := 1) (N := some 99) (v := ?_) (a' := ?_) (bl 30 3) rfl rfl (any_of HT_.out (by kernel_rfl)) (fun _ _ _ h => h) (Or.inl ⟨by rfl, ?_⟩) ?_ ?_
                   rotate_left
                   ·intro w'
                    go_simp
                    with_reducible rfl
                   rotate_left
                   ·simp only [Act.put, sA, sZ, sS, i64_w, i32_w]
                    rfl
                   refine pure_ (i := 2) (N := some 100) (v := ?_) (a' := ?_) (bl 30 7) rfl rfl (any_of HT_.out (by kernel_rfl)) (fun _ _ _ h => h) (Or.inl ⟨by rfl, ?_⟩) ?_ ?_
                   rotate_left
                   ·intro w'
                    go_simp
                    with_reducible rfl
                   rotate_left
                   ·simp only [Act.put, sA, sZ, sS, i64_w, i32_w]
                    rfl
                   refine pure_ (i := 3) (N := some 101) (v := ?_) (a' := ?_) (bl 30 15) rfl rfl (any_of HT_.out (by kernel_rfl)) (fun _ _ _ h => h) (Or.inl ⟨by rfl, ?_⟩) ?_ ?_
                   rotate_left
                   ·intro w'
                    go_simp
                    with_reducible rfl
                   rotate_left
                   ·simp only [Act.put, sA, sZ, sS, i64_w, i32_w]
                    rfl
                   refine pure_ (i := 4) (N := some 102) (v := ?_) (a' := ?_) (bl 30 31) rfl rfl (any_of HT_.out (by kernel_rfl)) (fun _ _ _ h => h) (Or.inl ⟨by rfl, ?_⟩) ?_ ?_
                   rotate_left
                   ·intro w'
                    go_simp
                    with_reducible rfl
                   rotate_left
                   ·simp only [Act.put, sA, sZ, sS, i64_w, i32_w]
                    rfl
                   refine pure_ (i := 5) (N := some 103) (v := ?_) (a' := ?_) (bl 30 63) rfl rfl (any_of HT_.out (by kernel_rfl)) (fun _ _ _ h => h) (Or.inl ⟨by rfl, ?_⟩) ?_ ?_
                   rotate_left
                   ·intro w'
                    go_simp
                    with_reducible rfl
                   rotate_left
                   ·simp only [Act.put, sA, sZ, sS, i64_w, i32_w]
                    rfl
                   refine pure_ (i := 8) (N := some 106) (v := ?_) (a' := ?_) (bl 30 319) rfl rfl (any_of HT_.out (by kernel_rfl)) (fun _ _ _ h => h) (Or.inl ⟨by rfl, ?_⟩) ?_ ?_
                   rotate_left
                   ·intro w'
                    go_simp
                    with_reducible rfl
                   rotate_left
                   ·simp only [Act.put, sA, sZ, sS, i64_w, i32_w]
                    rfl
                   refine pure_ (i := 9) (N := some 107) (v := ?_) (a' := ?_) (bl 30 831) rfl rfl (any_of HT_.out (by kernel_rfl)) (fun _ _ _ h => h) (Or.inl ⟨by rfl, ?_⟩) ?_ ?_
                   rotate_left
                   ·intro w'
                    go_simp
                    with_reducible rfl
                   rotate_left
                   ·simp only [Act.put, sA, sZ, sS, i64_w, i32_w]
                    rfl
                   refine pure_ (i := 10) (N := some 108) (v := ?_) (a' := ?_) (bl 30 1855) rfl rfl (any_of HT_.out (by kernel_rfl)) (fun _ _ _ h => h) (Or.inl ⟨by rfl, ?_⟩) ?_ ?_
                   rotate_left
                   ·intro w'
                    go_simp
                    with_reducible rfl
                   rotate_left
                   ·simp only [Act.put, sA, sZ, sS, i64_w, i32_w]
                    rfl
                   refine pure_ (i := 11) (N := some 109) (v := ?_) (a' := ?_) (bl 30 3903) rfl rfl (any_of HT_.out (by kernel_rfl)) (fun _ _ _ h => h) (Or.inl ⟨by rfl, ?_⟩) ?_ ?_
                   rotate_left
                   ·intro w'
                    go_simp
                    with_reducible rfl
                   rotate_left
                   ·simp only [Act.put, sA, sZ, sS, i64_w, i32_w]
                    rfl
                   refine take_ (i := 6) (N := some 104) (v := ?_) (a' := ?_) (bl 30 3967) rfl rfl (take_ofW HT_.out HW_.out (by kernel_rfl)) (fun _ _ _ h => h) (Or.inl ⟨by rfl, ?_⟩) hHeld ?_ ?_
                   rotate_left
                   ·rintro w' ⟨s0, s1⟩
                    go_simp
                    with_reducible rfl
                   rotate_left
                   ·simp only [Act.put, sA, sZ, sS, i64_w, i32_w]
                    rfl
                   refine one_ (i := 7) (N := some 105) (bl 30 4095) rfl rfl (one_of HT_.out (by kernel_rfl)) (by decide) (fun K hK => ?_)
                   refine goes_ Try.func20 (by kernel_rfl) rfl #[.int .i64 t102, .slice Ao13 t103.length co13, .int .i64 (Int.tmod (wrap64 (a2)) t102), .int .i64 (rd t115 x18_3)] (by rfl) rfl rfl (by (try simp only [List.map_toArray, List.map_cons, List.map_nil]); first | done | rfl | (simp only [List.length_drop, List.length_take]; rfl)) ?_
                   with_reducible refine (graph_Path.calls kj43 t102 _ _ t103 (Int.tmod (wrap64 (a2)) t102) (rd t115 x18_3) t121 _ ?side1 ?side2 A51.out).mono ?_
                   (case side1 => repeat (first | exact (Kd.R_reads' HO_11.out).2.2 | (with_reducible refine Kd.C_alloc ?_ _) | (with_reducible refine Kd.C_drewN ?_ _) | (with_reducible refine Kd.C_drew ?_)))
                   (case side2 => exact (Kd.R_reads' HO_11.out).2.1)
                   rintro e w61 ⟨v122, rfl, ho0, hb⟩
                   have HS0_ := (hb.cell (blt_ (hHeld.1))).trans (hHeld.1)
                   have HS1_ := (hb.cell (blt_ (hHeld.2))).trans (hHeld.2)
                   refine ⟨_, rfl, ?_⟩
                   replace HO_11 := am (Kd.R_below (by (with_reducible repeat (first | apply Ra | apply Rn | apply Rd)); exact HO_11.out) hb)
                   have HO123 := am (Kd.R_lower (Kd.R_new' ho0 (Kd.R_lt (by (with_reducible repeat (first | apply Ra | apply Rn | apply Rd)); exact HO_17.out))) (below_size (by repeat (first | (with_reducible first | exact HB.out | apply lA | apply lN | apply lD) | exact HB.out))))
                   replace HO_17 := am (Kd.R_elder' (by (with_reducible repeat (first | apply Ra | apply Rn | apply Rd)); exact HO_17.out) (Kd.R_base ho0) hb)
                   replace HR127 := am (Kd.C_below (by repeat (first | (with_reducible exact HR127.out) | (with_reducible refine Kd.C_alloc ?_ _) | (with_reducible refine Kd.C_drewN ?_ _) | (with_reducible refine Kd.C_drew ?_) | exact HR127.out)) hb)
                   replace HB := am (below_step (by repeat (first | (with_reducible first | exact HB.out | apply lA | apply lN | apply lD) | exact HB.out)) hb)
                   (try clear hb)
                   (try clear hb2)
                   (try clear hk)
                   (try clear hi)
                   (try clear ho0)
                   obtain ⟨Ao62, co62, eo62⟩ := Kd.R_slice HO123.out
                   (first | subst eo62 | (injection eo62 with f1_ f2_ f3_; have f4_ := f1_.symm; have f5_ := f3_.symm; clear f1_ f2_ f3_; subst f4_; subst f5_))
                   refine hK.out _ _ ⟨HS0_, HS1_⟩ (fun hHeld => ?_)
                   clear hK K
                   refine norm_ (a' := ?_) ?_ ?_
                   rotate_left
                   ·show Act.put _ (some 105) _ = _
                    simp only [Act.put, sA, sZ, sS, i64_w, i32_w]
                    rfl
                   refine one_ (i := 12) (N := some 110) (bl 30 8191) rfl rfl (one_of HT_.out (by kernel_rfl)) (by decide) (fun K hK => ?_)
                   refine goes_ Try.func19 (by kernel_rfl) rfl #[.slice Ao62 t121.length co62, .slice (some ad120) y124.length co45] (by rfl) rfl rfl (by (try simp only [List.map_toArray, List.map_cons, List.map_nil]); first | done | rfl | (simp only [List.length_drop, List.length_take]; rfl)) ?_
                   with_reducible refine (lambrequinref10_Ints.calls kj43 _ _ t121 _ _ y124 true _ ?side1 ?side2 ?side3 ?side4 A55.out).mono ?_
                   (case side1 => repeat (first | exact (Kd.R_reads' HO123.out).2.2 | (with_reducible refine Kd.C_alloc ?_ _) | (with_reducible refine Kd.C_drewN ?_ _) | (with_reducible refine Kd.C_drew ?_)))
                   (case side2 => exact (Kd.R_reads' HO123.out).2.1)
                   (case side3 => repeat (first | exact (by repeat (first | (with_reducible exact HR127.out) | (with_reducible refine Kd.C_alloc ?_ _) | (with_reducible refine Kd.C_drewN ?_ _) | (with_reducible refine Kd.C_drew ?_) | exact HR127.out)) | (with_reducible refine Kd.C_alloc ?_ _) | (with_reducible refine Kd.C_drewN ?_ _) | (with_reducible refine Kd.C_drew ?_)))
                   (case side4 => exact HC127.out)
                   rintro e w' ⟨rfl, ⟨nd, rfl⟩⟩
                   refine ⟨_, rfl, ?_⟩
                   refine hK.out _ _ ⟨hHeld.1, hHeld.2⟩ (fun hHeld => ?_)
                   clear hK K
                   refine norm_ (a' := ?_) ?_ ?_
                   rotate_left
                   ·show Act.put _ (some 110) _ = _
                    simp only [Act.put, sA, sZ, sS, i64_w, i32_w]
                    rfl
                   refine pure_ (i := 13) (N := some 111) (v := ?_) (a' := ?_) (bl 30 16383) rfl rfl (any_of HT_.out (by kernel_rfl)) (fun _ _ _ h => h) (Or.inl ⟨by rfl, ?_⟩) ?_ ?_
                   rotate_left
                   ·intro w'
                    go_simp
                    with_reducible rfl
                   rotate_left
                   ·simp only [Act.put, sA, sZ, sS, i64_w, i32_w]
                    rfl
                   refine pure_ (i := 14) (N := some 112) (v := ?_) (a' := ?_) (bl 30 32767) rfl rfl (any_of HT_.out (by kernel_rfl)) (fun _ _ _ h => h) (Or.inl ⟨by rfl, ?_⟩) ?_ ?_
                   rotate_left
                   ·intro w'
                    go_simp
                    with_reducible rfl
                   rotate_left
                   ·simp only [Act.put, sA, sZ, sS, i64_w, i32_w]
                    rfl
                   refine pure_ (i := 15) (N := some 113) (v := ?_) (a' := ?_) (bl 30 65535) rfl rfl (any_of HT_.out (by kernel_rfl)) (fun _ _ _ h => h) (Or.inl ⟨by rfl, ?_⟩) ?_ ?_
                   rotate_left
                   ·intro w'
                    go_simp
                    with_reducible rfl
                   rotate_left
                   ·simp only [Act.put, sA, sZ, sS, i64_w, i32_w]
                    rfl
                   refine pure_ (i := 16) (N := some 114) (v := ?_) (a' := ?_) (bl 30 131071) rfl rfl (any_of HT_.out (by kernel_rfl)) (fun _ _ _ h => h) (Or.inl ⟨by rfl, ?_⟩) ?_ ?_
                   rotate_left
                   ·intro w'
                    go_simp
                    with_reducible rfl
                   rotate_left
                   ·simp only [Act.put, sA, sZ, sS, i64_w, i32_w]
                    rfl
                   refine pure_ (i := 17) (N := some 115) (v := ?_) (a' := ?_) (bl 30 262143) rfl rfl (any_of HT_.out (by kernel_rfl)) (fun _ _ _ h => h) (Or.inl ⟨by rfl, ?_⟩) ?_ ?_
                   rotate_left
                   ·intro w'
                    go_simp
                    with_reducible rfl
                   rotate_left
                   ·simp only [Act.put, sA, sZ, sS, i64_w, i32_w]
                    rfl
                   refine pure_ (i := 18) (N := some 116) (v := ?_) (a' := ?_) (bl 30 524287) rfl rfl (any_of HT_.out (by kernel_rfl)) (fun _ _ _ h => h) (Or.inl ⟨by rfl, ?_⟩) ?_ ?_
                   rotate_left
                   ·intro w'
                    go_simp
                    with_reducible rfl
                   rotate_left
                   ·simp only [Act.put, sA, sZ, sS, i64_w, i32_w]
                    rfl
                   refine pure_ (i := 19) (N := some 117) (v := ?_) (a' := ?_) (bl 30 1048575) rfl rfl (any_of HT_.out (by kernel_rfl)) (fun _ _ _ h => h) (Or.inl ⟨by rfl, ?_⟩) ?_ ?_
                   rotate_left
                   ·intro w'
                    go_simp
                    with_reducible rfl
                   rotate_left
                   ·simp only [Act.put, sA, sZ, sS, i64_w, i32_w]
                    rfl
                   refine pure_ (i := 21) (N := some 119) (v := ?_) (a' := ?_) (bl 30 3145727) rfl rfl (any_of HT_.out (by kernel_rfl)) (fun _ _ _ h => h) (Or.inl ⟨by rfl, ?_⟩) ?_ ?_
                   rotate_left
                   ·intro w'
                    go_simp
                    with_reducible rfl
                   rotate_left
                   ·simp only [Act.put, sA, sZ, sS, i64_w, i32_w]
                    rfl
                   refine pure_ (i := 24) (N := some 122) (v := ?_) (a' := ?_) (bl 30 19922943) rfl rfl (any_of HT_.out (by kernel_rfl)) (fun _ _ _ h => h) (Or.inl ⟨by rfl, ?_⟩) ?_ ?_
                   rotate_left
                   ·intro w'
                    go_simp
                    with_reducible rfl
                   rotate_left
                   ·simp only [Act.put, sA, sZ, sS, i64_w, i32_w]
                    rfl
                   refine pure_ (i := 25) (N := some 123) (v := ?_) (a' := ?_) (bl 30 53477375) rfl rfl (any_of HT_.out (by kernel_rfl)) (fun _ _ _ h => h) (Or.inl ⟨by rfl, ?_⟩) ?_ ?_
                   rotate_left
                   ·intro w'
                    go_simp
                    with_reducible rfl
                   rotate_left
                   ·simp only [Act.put, sA, sZ, sS, i64_w, i32_w]
                    rfl
                   refine pure_ (i := 26) (N := some 124) (v := ?_) (a' := ?_) (bl 30 120586239) rfl rfl (any_of HT_.out (by kernel_rfl)) (fun _ _ _ h => h) (Or.inl ⟨by rfl, ?_⟩) ?_ ?_
                   rotate_left
                   ·intro w'
                    go_simp
                    with_reducible rfl
                   rotate_left
                   ·simp only [Act.put, sA, sZ, sS, i64_w, i32_w]
                    rfl
                   refine pure_ (i := 27) (N := some 125) (v := ?_) (a' := ?_) (bl 30 254803967) rfl rfl (any_of HT_.out (by kernel_rfl)) (fun _ _ _ h => h) (Or.inl ⟨by rfl, ?_⟩) ?_ ?_
                   rotate_left
                   ·intro w'
                    go_simp
                    with_reducible rfl
                   rotate_left
                   ·simp only [Act.put, sA, sZ, sS, i64_w, i32_w]
                    rfl
                   refine take_ (i := 20) (N := some 118) (v := ?_) (a' := ?_) (bl 30 255852543) rfl rfl (take_ofW HT_.out HW_.out (by kernel_rfl)) (fun _ _ _ h => h) (Or.inl ⟨by rfl, ?_⟩) hHeld ?_ ?_
                   rotate_left
                   ·rintro w' ⟨s0, s1⟩
                    go_simp
                    with_reducible rfl
                   rotate_left
                   ·simp only [Act.put, sA, sZ, sS, i64_w, i32_w]
                    rfl
                   refine one_ (i := 22) (N := some 120) (bl 30 260046847) rfl rfl (one_of HT_.out (by kernel_rfl)) (by decide) (fun K hK => ?_)
                   refine goes_ Try.func20 (by kernel_rfl) rfl #[.int .i64 t102, .slice Ao13 t103.length co13, .int .i64 (rd t115 x18_3), .int .i64 (Int.tmod (wrap64 (a3)) t102)] (by rfl) rfl rfl (by (try simp only [List.map_toArray, List.map_cons, List.map_nil]); first | done | rfl | (simp only [List.length_drop, List.length_take]; rfl)) ?_
                   with_reducible refine (graph_Path.calls kj43 t102 _ _ t103 (rd t115 x18_3) (Int.tmod (wrap64 (a3)) t102) t130 _ ?side1 ?side2 A57.out).mono ?_
                   (case side1 => repeat (first | exact (Kd.R_reads' HO_11.out).2.2 | (with_reducible refine Kd.C_alloc ?_ _) | (with_reducible refine Kd.C_drewN ?_ _) | (with_reducible refine Kd.C_drew ?_)))
                   (case side2 => exact (Kd.R_reads' HO_11.out).2.1)
                   rintro e w63 ⟨v131, rfl, ho0, hb⟩
                   have HS0_ := (hb.cell (blt_ (hHeld.1))).trans (hHeld.1)
                   have HS1_ := (hb.cell (blt_ (hHeld.2))).trans (hHeld.2)
                   refine ⟨_, rfl, ?_⟩
                   replace HO_11 := am (Kd.R_below (by (with_reducible repeat (first | apply Ra | apply Rn | apply Rd)); exact HO_11.out) hb)
                   have HO132 := am (Kd.R_lower (Kd.R_new' (Kd.R_new' ho0 (Kd.R_lt (by (with_reducible repeat (first | apply Ra | apply Rn | apply Rd)); exact HO_17.out))) (Kd.R_lt (by (with_reducible repeat (first | apply Ra | apply Rn | apply Rd)); exact HO123.out))) (below_size (by repeat (first | (with_reducible first | exact HB.out | apply lA | apply lN | apply lD) | exact HB.out))))
                   replace HO_17 := am (Kd.R_elder' (by (with_reducible repeat (first | apply Ra | apply Rn | apply Rd)); exact HO_17.out) (Kd.R_base ho0) hb)
                   replace HO123 := am (Kd.R_elder' (by (with_reducible repeat (first | apply Ra | apply Rn | apply Rd)); exact HO123.out) (Kd.R_base ho0) hb)
                   replace HR127 := am (Kd.C_below (by repeat (first | (with_reducible exact HR127.out) | (with_reducible refine Kd.C_alloc ?_ _) | (with_reducible refine Kd.C_drewN ?_ _) | (with_reducible refine Kd.C_drew ?_) | exact HR127.out)) hb)
                   replace HB := am (below_step (by repeat (first | (with_reducible first | exact HB.out | apply lA | apply lN | apply lD) | exact HB.out)) hb)
                   (try clear hb)
                   (try clear hb2)
                   (try clear hk)
                   (try clear hi)
                   (try clear ho0)
                   obtain ⟨Ao64, co64, eo64⟩ := Kd.R_slice HO132.out
                   (first | subst eo64 | (injection eo64 with f1_ f2_ f3_; have f4_ := f1_.symm; have f5_ := f3_.symm; clear f1_ f2_ f3_; subst f4_; subst f5_))
                   refine hK.out _ _ ⟨HS0_, HS1_⟩ (fun hHeld => ?_)
                   clear hK K
                   refine norm_ (a' := ?_) ?_ ?_
                   rotate_left
                   ·show Act.put _ (some 120) _ = _
                    simp only [Act.put, sA, sZ, sS, i64_w, i32_w]
                    rfl
                   refine pure_ (i := 23) (N := some 121) (v := ?_) (a' := ?_) (bl 30 268435455) rfl rfl (any_of HT_.out (by kernel_rfl)) (fun _ _ _ h => h) (Or.inl ⟨by rfl, ?_⟩) ?_ ?_
                   rotate_left
                   ·intro w'
                    go_simp
                    with_reducible rfl
                   rotate_left
                   ·simp only [Act.put, sA, sZ, sS, i64_w, i32_w]
                    rfl
                   refine pure_ (i := 28) (N := some 126) (v := ?_) (a' := ?_) (bl 30 536870911) rfl rfl (any_of HT_.out (by kernel_rfl)) (fun _ _ _ h => h) (Or.inl ⟨by rfl, ?_⟩) ?_ ?_
                   rotate_left
                   ·intro w'
                    go_simp
                    with_reducible rfl
                   rotate_left
                   ·simp only [Act.put, sA, sZ, sS, i64_w, i32_w]
                    rfl
                   refine pure_ (i := 29) (N := some 127) (v := ?_) (a' := ?_) (bl 30 1073741823) rfl rfl (any_of HT_.out (by kernel_rfl)) (fun _ _ _ h => h) (Or.inl ⟨by rfl, ?_⟩) ?_ ?_
                   rotate_left
                   ·intro w'
                    go_simp
                    with_reducible rfl
                   rotate_left
                   ·simp only [Act.put, sA, sZ, sS, i64_w, i32_w]
                    rfl
                   refine done_ (done_of HT_.out (by kernel_rfl)) ?_
                   by_cases c58 : (t130.length : Int) = (wrap64 ((t115.length : Int) - x18_3))
                   ·rw [if_pos c58] at H
                    have c58b0 : ((t130.length : Int) == (wrap64 ((t115.length : Int) - x18_3))) = true := beq_iff_eq.mpr c58
                    have c58b1 : ((t130.length : Int) != (wrap64 ((t115.length : Int) - x18_3))) = false := bne_eq_false_iff_eq.mpr c58
                    clear c58
                    have H' := am H
                    clear H
                    try go_wp2
                    go_roundg kj43
                    case measure => have := HJ9.out; have := HK2.out; have := HK3.out; have := HJ43.out; omega
                    case rel => exact ⟨(ji52), (by first | rfl | (simp; done) | (simp only [← hji52] <;> (first | rfl | simp)) | (simp [*]; done)), H', ⟨by have := HJ9.out; have := HK2.out; have := HK3.out; have := HJ43.out; omega⟩, ⟨by (with_reducible repeat (first | apply Ra | apply Rn | apply Rd)); exact HO_11.out⟩, ⟨by (with_reducible repeat (first | apply Ra | apply Rn | apply Rd)); exact Kd.R_mono HO_17.out (fun _ hk => trivial)⟩, ⟨by repeat (first | (with_reducible first | exact HB.out | apply lA | apply lN | apply lD) | exact HB.out)⟩⟩
                   ·rw [if_neg c58] at H
                    have c58b0 : ((t130.length : Int) == (wrap64 ((t115.length : Int) - x18_3))) = false := beq_eq_false_iff_ne.mpr c58
                    have c58b1 : ((t130.length : Int) != (wrap64 ((t115.length : Int) - x18_3))) = true := bne_iff_ne.mpr c58
                    obtain rfl := Option.some.inj H
                    try go_wp2
                    go_ret
                    exact ⟨by first | rfl | (simp [errW_none, errW_some] <;> rfl) | (simp only [← hji52]; first | rfl | (simp [errW_none, errW_some] <;> rfl)) | (simp [*, errW_none, errW_some] <;> rfl), by repeat (first | (with_reducible first | exact HB.out | apply lA | apply lN | apply lD) | exact HB.out)⟩
                  ·replace c56 := Bool.eq_false_iff.mpr c56
                   subst c56
                   have H1 : (some false) = some r := by rw [if_neg (show ¬ (false = true) by decide)] at H; exact H
                   clear H
                   have H := H1
                   clear H1
                   obtain rfl := Option.some.inj H
                   try go_wp2
                   replace HO_11 := am (Kd.R_drew HO_11.out)
                   replace HO_17 := am (Kd.R_drew HO_17.out)
                   replace HB := am (below_drew1 HB.out)
                   have p120 : 0 ≤ (x18_3 : Int) := of_decide_eq_true (by first | (with_reducible assumption) | assumption)
                   have q120 : x18_3 < (t115.length : Int) := of_decide_eq_true (by first | (with_reducible assumption) | assumption)
                   obtain ⟨ad120, e120, hx120_0⟩ := Kd.at_int (Kd.R_reads' HO_17.out).2.2 x18_3 p120 q120
                   cases e120
                   replace p120 := eq_true p120
                   replace q120 := eq_true q120
                   have q72 : ((ji52) : Int) ≤ ((t115.length : Int) : Int) := of_decide_eq_true (by first | (with_reducible assumption) | assumption)
                   obtain ⟨i072, hi072, _, hsz72, _⟩ := info_parts info3
                   have hroom72 : t115.length ≤ co45 := (Kd.R_reads' HO_17.out).2.1
                   have hC72 : Kd.C (Kd.int .i64) _ (some ad120) t115.length t115 := (Kd.R_reads' HO_17.out).2.2
                   have hcut72 := cut_to (P := Try.prog) 35 3 .i64 Try.underlying35 hi072 (some ad120) t115.length co45 (ji52) (of_decide_eq_true (by first | (with_reducible assumption) | assumption)) q72 hroom72
                   have hr72 := Kd.C_take (m := ((ji52) : Int).toNat) hC72 (by omega)
                   have hy72 : y124.length = ((ji52) : Int).toNat := (by rw [Ny124.out, List.length_take]; omega)
                   rw [← Ny124.out] at hr72
                   rw [← hy72] at hcut72
                   have HR127 := am hr72
                   have HC127 := am (show y124.length ≤ co45 from by omega)
                   clear hr72 hC72 hroom72 hi072 hsz72
                   have KY72 := am hy72
                   clear hy72
                   have KL72 := am (show ((ji52) : Int).toNat ≤ t115.length from by omega)
                   replace q72 := eq_true q72
                   refine start_ (n := 30) (S := fun w' => w'.cell? (ad120.add (x18_3).toNat) = some (.int .i64 (rd t115 x18_3))) (ds := []) (bl 30 0) (by kernel_rfl) rfl rfl (hx120_0) (fun hHeld => ?_); refine with_tabW lambrequinlaw10_GraphThrough.tab20 lambrequinlaw10_GraphThrough.bits20 (fun HT_ HW_ => ?_)
                   generalize wc.drew = w71 at HO_11 HO_17 HB HR127 hx120_0 hHeld ⊢
                   refine pure_ (i := 0) (N := some 98) (v := ?_) (a' := ?_) (bl 30 1) rfl rfl (any_of HT_.out (by kernel_rfl)) (fun _ _ _ h => h) (Or.inl ⟨by rfl, ?_⟩) ?_ ?_
                   rotate_left
                   ·intro w'
                    go_simp
                    with_reducible rfl
                   rotate_left
                   ·simp only [Act.put, sA, sZ, sS, i64_w, i32_w]
                    rfl
                   refine pure_ (i := 1) (N := some 99) (v := ?_) (a' := ?_) (bl 30 3) rfl rfl (any_of HT_.out (by kernel_rfl)) (fun _ _ _ h => h) (Or.inl ⟨by rfl, ?_⟩) ?_ ?_
                   rotate_left
                   ·intro w'
                    go_simp
                    with_reducible rfl
                   rotate_left
                   ·simp only [Act.put, sA, sZ, sS, i64_w, i32_w]
                    rfl
                   refine pure_ (i := 2) (N := some 100) (v := ?_) (a' := ?_) (bl 30 7) rfl rfl (any_of HT_.out (by kernel_rfl)) (fun _ _ _ h => h) (Or.inl ⟨by rfl, ?_⟩) ?_ ?_
                   rotate_left
                   ·intro w'
                    go_simp
                    with_reducible rfl
                   rotate_left
                   ·simp only [Act.put, sA, sZ, sS, i64_w, i32_w]
                    rfl
                   refine pure_ (i := 3) (N := some 101) (v := ?_) (a' := ?_) (bl 30 15) rfl rfl (any_of HT_.out (by kernel_rfl)) (fun _ _ _ h => h) (Or.inl ⟨by rfl, ?_⟩) ?_ ?_
                   rotate_left
                   ·intro w'
                    go_simp
                    with_reducible rfl
                   rotate_left
                   ·simp only [Act.put, sA, sZ, sS, i64_w, i32_w]
                    rfl
                   refine pure_ (i := 4) (N := some 102) (v := ?_) (a' := ?_) (bl 30 31) rfl rfl (any_of HT_.out (by kernel_rfl)) (fun _ _ _ h => h) (Or.inl ⟨by rfl, ?_⟩) ?_ ?_
                   rotate_left
                   ·intro w'
                    go_simp
                    with_reducible rfl
                   rotate_left
                   ·simp only [Act.put, sA, sZ, sS, i64_w, i32_w]
                    rfl
                   refine pure_ (i := 5) (N := some 103) (v := ?_) (a' := ?_) (bl 30 63) rfl rfl (any_of HT_.out (by kernel_rfl)) (fun _ _ _ h => h) (Or.inl ⟨by rfl, ?_⟩) ?_ ?_
                   rotate_left
                   ·intro w'
                    go_simp
                    with_reducible rfl
                   rotate_left
                   ·simp only [Act.put, sA, sZ, sS, i64_w, i32_w]
                    rfl
                   refine pure_ (i := 8) (N := some 106) (v := ?_) (a' := ?_) (bl 30 319) rfl rfl (any_of HT_.out (by kernel_rfl)) (fun _ _ _ h => h) (Or.inl ⟨by rfl, ?_⟩) ?_ ?_
                   rotate_left
                   ·intro w'
                    go_simp
                    with_reducible rfl
                   rotate_left
                   ·simp only [Act.put, sA, sZ, sS, i64_w, i32_w]
                    rfl
                   refine pure_ (i := 9) (N := some 107) (v := ?_) (a' := ?_) (bl 30 831) rfl rfl (any_of HT_.out (by kernel_rfl)) (fun _ _ _ h => h) (Or.inl ⟨by rfl, ?_⟩) ?_ ?_
                   rotate_left
                   ·intro w'
                    go_simp
                    with_reducible rfl
                   rotate_left
                   ·simp only [Act.put, sA, sZ, sS, i64_w, i32_w]
                    rfl
                   refine pure_ (i := 10) (N := some 108) (v := ?_) (a' := ?_) (bl 30 1855) rfl rfl (any_of HT_.out (by kernel_rfl)) (fun _ _ _ h => h) (Or.inl ⟨by rfl, ?_⟩) ?_ ?_
                   rotate_left
                   ·intro w'
                    go_simp
                    with_reducible rfl
                   rotate_left
                   ·simp only [Act.put, sA, sZ, sS, i64_w, i32_w]
                    rfl
                   refine pure_ (i := 11) (N := some 109) (v := ?_) (a' := ?_) (bl 30 3903) rfl rfl (any_of HT_.out (by kernel_rfl)) (fun _ _ _ h => h) (Or.inl ⟨by rfl, ?_⟩) ?_ ?_
                   rotate_left
                   ·intro w'
                    go_simp
                    with_reducible rfl
                   rotate_left
                   ·simp only [Act.put, sA, sZ, sS, i64_w, i32_w]
                    rfl
                   refine take_ (i := 6) (N := some 104) (v := ?_) (a' := ?_) (bl 30 3967) rfl rfl (take_ofW HT_.out HW_.out (by kernel_rfl)) (fun _ _ _ h => h) (Or.inl ⟨by rfl, ?_⟩) hHeld ?_ ?_
                   rotate_left
                   ·intro w' s0
                    go_simp
                    with_reducible rfl
                   rotate_left
                   ·simp only [Act.put, sA, sZ, sS, i64_w, i32_w]
                    rfl
                   refine one_ (i := 7) (N := some 105) (bl 30 4095) rfl rfl (one_of HT_.out (by kernel_rfl)) (by decide) (fun K hK => ?_)
                   refine goes_ Try.func20 (by kernel_rfl) rfl #[.int .i64 t102, .slice Ao13 t103.length co13, .int .i64 (Int.tmod (wrap64 (a2)) t102), .int .i64 (rd t115 x18_3)] (by rfl) rfl rfl (by (try simp only [List.map_toArray, List.map_cons, List.map_nil]); first | done | rfl | (simp only [List.length_drop, List.length_take]; rfl)) ?_
                   with_reducible refine (graph_Path.calls kj43 t102 _ _ t103 (Int.tmod (wrap64 (a2)) t102) (rd t115 x18_3) t121 _ ?side1 ?side2 A51.out).mono ?_
                   (case side1 => repeat (first | exact (Kd.R_reads' HO_11.out).2.2 | (with_reducible refine Kd.C_alloc ?_ _) | (with_reducible refine Kd.C_drewN ?_ _) | (with_reducible refine Kd.C_drew ?_)))
                   (case side2 => exact (Kd.R_reads' HO_11.out).2.1)
                   rintro e w73 ⟨v122, rfl, ho0, hb⟩
                   have HS0_ := (hb.cell (blt_ (hHeld))).trans (hHeld)
                   refine ⟨_, rfl, ?_⟩
                   replace HO_11 := am (Kd.R_below (by (with_reducible repeat (first | apply Ra | apply Rn | apply Rd)); exact HO_11.out) hb)
                   have HO123 := am (Kd.R_lower (Kd.R_new' ho0 (Kd.R_lt (by (with_reducible repeat (first | apply Ra | apply Rn | apply Rd)); exact HO_17.out))) (below_size (by repeat (first | (with_reducible first | exact HB.out | apply lA | apply lN | apply lD) | exact HB.out))))
                   replace HO_17 := am (Kd.R_elder' (by (with_reducible repeat (first | apply Ra | apply Rn | apply Rd)); exact HO_17.out) (Kd.R_base ho0) hb)
                   replace HR127 := am (Kd.C_below (by repeat (first | (with_reducible exact HR127.out) | (with_reducible refine Kd.C_alloc ?_ _) | (with_reducible refine Kd.C_drewN ?_ _) | (with_reducible refine Kd.C_drew ?_) | exact HR127.out)) hb)
                   replace HB := am (below_step (by repeat (first | (with_reducible first | exact HB.out | apply lA | apply lN | apply lD) | exact HB.out)) hb)
                   (try clear hb)
                   (try clear hb2)
                   (try clear hk)
                   (try clear hi)
                   (try clear ho0)
                   obtain ⟨Ao74, co74, eo74⟩ := Kd.R_slice HO123.out
                   (first | subst eo74 | (injection eo74 with f1_ f2_ f3_; have f4_ := f1_.symm; have f5_ := f3_.symm; clear f1_ f2_ f3_; subst f4_; subst f5_))
                   refine hK.out _ _ (HS0_) (fun hHeld => ?_)
                   clear hK K
                   refine norm_ (a' := ?_) ?_ ?_
                   rotate_left
                   ·show Act.put _ (some 105) _ = _
                    simp only [Act.put, sA, sZ, sS, i64_w, i32_w]
                    rfl
                   refine one_ (i := 12) (N := some 110) (bl 30 8191) rfl rfl (one_of HT_.out (by kernel_rfl)) (by decide) (fun K hK => ?_)
                   refine goes_ Try.func19 (by kernel_rfl) rfl #[.slice Ao74 t121.length co74, .slice (some ad120) y124.length co45] (by rfl) rfl rfl (by (try simp only [List.map_toArray, List.map_cons, List.map_nil]); first | done | rfl | (simp only [List.length_drop, List.length_take]; rfl)) ?_
                   with_reducible refine (lambrequinref10_Ints.calls kj43 _ _ t121 _ _ y124 false _ ?side1 ?side2 ?side3 ?side4 A55.out).mono ?_
                   (case side1 => repeat (first | exact (Kd.R_reads' HO123.out).2.2 | (with_reducible refine Kd.C_alloc ?_ _) | (with_reducible refine Kd.C_drewN ?_ _) | (with_reducible refine Kd.C_drew ?_)))
                   (case side2 => exact (Kd.R_reads' HO123.out).2.1)
                   (case side3 => repeat (first | exact (by repeat (first | (with_reducible exact HR127.out) | (with_reducible refine Kd.C_alloc ?_ _) | (with_reducible refine Kd.C_drewN ?_ _) | (with_reducible refine Kd.C_drew ?_) | exact HR127.out)) | (with_reducible refine Kd.C_alloc ?_ _) | (with_reducible refine Kd.C_drewN ?_ _) | (with_reducible refine Kd.C_drew ?_)))
                   (case side4 => exact HC127.out)
                   rintro e w' ⟨rfl, ⟨nd, rfl⟩⟩
                   refine ⟨_, rfl, ?_⟩
                   refine hK.out _ _ (hHeld) (fun hHeld => ?_)
                   clear hK K
                   refine norm_ (a' := ?_) ?_ ?_
                   rotate_left
                   ·show Act.put _ (some 110) _ = _
                    simp only [Act.put, sA, sZ, sS, i64_w, i32_w]
                    rfl
                   refine pure_ (i := 13) (N := some 111) (v := ?_) (a' := ?_) (bl 30 16383) rfl rfl (any_of HT_.out (by kernel_rfl)) (fun _ _ _ h => h) (Or.inl ⟨by rfl, ?_⟩) ?_ ?_
                   rotate_left
                   ·intro w'
                    go_simp
                    with_reducible rfl
                   rotate_left
                   ·simp only [Act.put, sA, sZ, sS, i64_w, i32_w]
                    rfl
                   refine pure_ (i := 14) (N := some 112) (v := ?_) (a' := ?_) (bl 30 32767) rfl rfl (any_of HT_.out (by kernel_rfl)) (fun _ _ _ h => h) (Or.inl ⟨by rfl, ?_⟩) ?_ ?_
                   rotate_left
                   ·intro w'
                    go_simp
                    with_reducible rfl
                   rotate_left
                   ·simp only [Act.put, sA, sZ, sS, i64_w, i32_w]
                    rfl
                   refine pure_ (i := 15) (N := some 113) (v := undef) (a' := ?_) (bl 30 65535) rfl rfl (any_of HT_.out (by kernel_rfl)) (fun _ _ _ h => h) (Or.inr ⟨by rfl, rfl⟩) ?_ ?_
                   rotate_left
                   ·simp only [Act.put, sA, sZ, sS, i64_w, i32_w]
                    rfl
                   refine pure_ (i := 16) (N := some 114) (v := undef) (a' := ?_) (bl 30 131071) rfl rfl (any_of HT_.out (by kernel_rfl)) (fun _ _ _ h => h) (Or.inr ⟨by rfl, rfl⟩) ?_ ?_
                   rotate_left
                   ·simp only [Act.put, sA, sZ, sS, i64_w, i32_w]
                    rfl
                   refine pure_ (i := 17) (N := some 115) (v := undef) (a' := ?_) (bl 30 262143) rfl rfl (any_of HT_.out (by kernel_rfl)) (fun _ _ _ h => h) (Or.inr ⟨by rfl, rfl⟩) ?_ ?_
                   rotate_left
                   ·simp only [Act.put, sA, sZ, sS, i64_w, i32_w]
                    rfl
                   refine pure_ (i := 18) (N := some 116) (v := undef) (a' := ?_) (bl 30 524287) rfl rfl (any_of HT_.out (by kernel_rfl)) (fun _ _ _ h => h) (Or.inr ⟨by rfl, rfl⟩) ?_ ?_
                   rotate_left
                   ·simp only [Act.put, sA, sZ, sS, i64_w, i32_w]
                    rfl
                   refine pure_ (i := 19) (N := some 117) (v := undef) (a' := ?_) (bl 30 1048575) rfl rfl (any_of HT_.out (by kernel_rfl)) (fun _ _ _ h => h) (Or.inr ⟨by rfl, rfl⟩) ?_ ?_
                   rotate_left
                   ·simp only [Act.put, sA, sZ, sS, i64_w, i32_w]
                    rfl
                   refine pure_ (i := 20) (N := some 118) (v := undef) (a' := ?_) (bl 30 2097151) rfl rfl (any_of HT_.out (by kernel_rfl)) (fun _ _ _ h => h) (Or.inr ⟨by rfl, rfl⟩) ?_ ?_
                   rotate_left
                   ·simp only [Act.put, sA, sZ, sS, i64_w, i32_w]
                    rfl
                   refine pure_ (i := 21) (N := some 119) (v := undef) (a' := ?_) (bl 30 4194303) rfl rfl (any_of HT_.out (by kernel_rfl)) (fun _ _ _ h => h) (Or.inr ⟨by rfl, rfl⟩) ?_ ?_
                   rotate_left
                   ·simp only [Act.put, sA, sZ, sS, i64_w, i32_w]
                    rfl
                   refine pure_ (i := 22) (N := some 120) (v := undef) (a' := ?_) (bl 30 8388607) rfl rfl (any_of HT_.out (by kernel_rfl)) (fun _ _ _ h => h) (Or.inr ⟨by rfl, rfl⟩) ?_ ?_
                   rotate_left
                   ·simp only [Act.put, sA, sZ, sS, i64_w, i32_w]
                    rfl
                   refine pure_ (i := 23) (N := some 121) (v := undef) (a' := ?_) (bl 30 16777215) rfl rfl (any_of HT_.out (by kernel_rfl)) (fun _ _ _ h => h) (Or.inr ⟨by rfl, rfl⟩) ?_ ?_
                   rotate_left
                   ·simp only [Act.put, sA, sZ, sS, i64_w, i32_w]
                    rfl
                   refine pure_ (i := 24) (N := some 122) (v := undef) (a' := ?_) (bl 30 33554431) rfl rfl (any_of HT_.out (by kernel_rfl)) (fun _ _ _ h => h) (Or.inr ⟨by rfl, rfl⟩) ?_ ?_
                   rotate_left
                   ·simp only [Act.put, sA, sZ, sS, i64_w, i32_w]
                    rfl
                   refine pure_ (i := 25) (N := some 123) (v := undef) (a' := ?_) (bl 30 67108863) rfl rfl (any_of HT_.out (by kernel_rfl)) (fun _ _ _ h => h) (Or.inr ⟨by rfl, rfl⟩) ?_ ?_
                   rotate_left
                   ·simp only [Act.put, sA, sZ, sS, i64_w, i32_w]
                    rfl
                   refine pure_ (i := 26) (N := some 124) (v := undef) (a' := ?_) (bl 30 134217727) rfl rfl (any_of HT_.out (by kernel_rfl)) (fun _ _ _ h => h) (Or.inr ⟨by rfl, rfl⟩) ?_ ?_
                   rotate_left
                   ·simp only [Act.put, sA, sZ, sS, i64_w, i32_w]
                    rfl
                   refine pure_ (i := 27) (N := some 125) (v := undef) (a' := ?_) (bl 30 268435455) rfl rfl (any_of HT_.out (by kernel_rfl)) (fun _ _ _ h => h) (Or.inr ⟨by rfl, rfl⟩) ?_ ?_
                   rotate_left
                   ·simp only [Act.put, sA, sZ, sS, i64_w, i32_w]
                    rfl
                   refine pure_ (i := 28) (N := some 126) (v := undef) (a' := ?_) (bl 30 536870911) rfl rfl (any_of HT_.out (by kernel_rfl)) (fun _ _ _ h => h) (Or.inr ⟨by rfl, rfl⟩) ?_ ?_
                   rotate_left
                   ·simp only [Act.put, sA, sZ, sS, i64_w, i32_w]
                    rfl
                   refine pure_ (i := 29) (N := some 127) (v := ?_) (a' := ?_) (bl 30 1073741823) rfl rfl (any_of HT_.out (by kernel_rfl)) (fun _ _ _ h => h) (Or.inl ⟨by rfl, ?_⟩) ?_ ?_
                   rotate_left
                   ·intro w'
                    go_simp
                    with_reducible rfl
                   rotate_left
                   ·simp only [Act.put, sA, sZ, sS, i64_w, i32_w]
                    rfl
                   refine done_ (done_of HT_.out (by kernel_rfl)) ?_
                   try go_wp2
                   go_ret
                   exact ⟨by first | rfl | (simp [errW_none, errW_some] <;> rfl) | (simp only [← hji52]; first | rfl | (simp [errW_none, errW_some] <;> rfl)) | (simp [*, errW_none, errW_some] <;> rfl), by repeat (first | (with_reducible first | exact HB.out | apply lA | apply lN | apply lD) | exact HB.out)⟩
                 ·rw [if_neg c54] at H
                  exact absurd H (by simp)
                ·rw [if_neg c53] at H
                 exact absurd H (by simp)
               ·rw [if_neg c50] at H
                exact absurd H (by simp)
              ·rw [if_neg c49] at H
               exact absurd H (by simp)
          ·rw [if_neg c43] at H
           have c43b0 : decide (x18_3 < (t115.length : Int)) = false := decide_eq_false c43
           clear c43
           obtain rfl := Option.some.inj H
           obtain ⟨Ao75, co75, eo75⟩ := Kd.R_slice HO_17.out
           subst eo75
           go_wp2
           go_ret
           exact ⟨by first | rfl | (simp [errW_none, errW_some] <;> rfl) | (simp [*, errW_none, errW_some] <;> rfl), by repeat (first | (with_reducible first | exact HB.out | apply lA | apply lN | apply lD) | exact HB.out)⟩
end Go.Proofs.Ytmlhnjonmjmhdaa.H
/- GraphThrough: what is reached from what is reached is reached; a shortest path's parts are shortest, too -/
namespace Go.Proofs.Ytmlhnjonmjmhdaa.H
open Go.RowKit Go.Proofs.YtmlhnjonmjmhdaaW.PrintWords
theorem through_l1 {n a b : Nat} {l : List IPair} (ha : a < n) (hbn : b < n) (hl : l.length ≤ 1000000) (hb : cleanBad (n : Int) l = false) {p : List Int} (hp : IsP (rws n l) a b p) (hpre : ∀ (i : Nat) (v : Int), p[i]? = some v → Ev (fun k => graph_Path.f k (n : Int) l (a : Int) v) (p.take (i + 1))) :
    ∀ (d : List Int) (i : Nat), p.drop i = d → Ev (fun k => lambrequinlaw10_GraphThrough.l1 k true (n : Int) l (a : Int) (b : Int) p (i : Int)) true
  | [], i, hd => by
    refine Ev.step (fun k => by rw [lambrequinlaw10_GraphThrough.l1]) ?_
    exact Ev.neg (drop_end hd) (Ev.now _)
  | y :: d, i, hd => by
    have hn := bad_n hb
    have hlen := rws_len n l
    have hpl := hp.few
    obtain ⟨h1, h2, h3, h4, h5⟩ := drop_more hd (by omega)
    have e : rd p (i : Int) = y := h3 _
    have hi : i < p.length := by clear h5; omega
    have hy : p[i]? = some y := by
      have := congrArg (fun z => z[0]?) hd
      simpa using this
    have hyb := hp.bnd y (List.mem_of_getElem? hy)
    obtain ⟨z, rfl⟩ := Int.eq_ofNat_of_zero_le hyb.1
    have hz : z < n := by clear h5; omega
    have next := through_l1 ha hbn hl hb hp hpre d (i + 1) h4
    have hlast : p[i + (p.length - 1 - i)]? = some (b : Int) := by rw [show i + (p.length - 1 - i) = p.length - 1 by clear h5; omega]; exact hp.lst
    have hw := hp.walk (p.length - 1 - i) i _ _ hy hlast
    rw [Int.toNat_natCast, Int.toNat_natCast] at hw
    obtain ⟨q, hq, hqp, _⟩ := (Path_is hl hb hz hbn).1 hw.rch
    have hq1 := hqp.short _ hw
    have hfst : p[0]? = some (a : Int) := hp.fst
    have hw1 := hp.walk i 0 _ _ hfst (by rw [Nat.zero_add]; exact hy)
    have hw2 := hqp.walk (q.length - 1) 0 _ _ hqp.fst (by rw [Nat.zero_add]; exact hqp.lst)
    rw [Int.toNat_natCast, Int.toNat_natCast] at hw1 hw2
    have hq2 := hp.short _ (hw1.trans hw2)
    have hqpos := hqp.pos
    have e2 : wrap64 ((p.length : Int) - i) = (p.length : Int) - i := by clear h5; unfold wrap64; omega
    have e3 : (((i + 1 : Nat) : Int)).toNat = i + 1 := Int.toNat_natCast _
    refine Ev.step (fun k => by rw [lambrequinlaw10_GraphThrough.l1]) ?_
    refine Ev.pos h1 (Ev.pos h2 ?_)
    rw [e]
    refine Ev.neg (by clear h5 e2; omega) ?_
    rw [show decide (((z : Nat) : Int) ≥ (n : Int)) = false by clear h5 e2; simp; omega]
    refine Ev.step (fun k => by rw [lambrequinlaw10_GraphThrough.j3]) ?_
    refine Ev.neg (by decide) (Ev.pos h2 (Ev.pos h1 ?_))
    rw [e, h5]
    refine Ev.bind (hpre i _ hy) (Ev.pos (by clear h5 e2; omega) (Ev.pos (by clear h5 e2; omega) ?_))
    rw [e3]
    refine Ev.bind (Ints_refl _ (by rw [List.length_take]; clear h5 e2; omega)) (Ev.pos rfl (Ev.bind hq (Ev.pos ?_ next)))
    rw [e2]
    clear h5 e2
    omega
theorem through_l0 {n a b : Nat} {l : List IPair} (ha : a < n) (hbn : b < n) (hl : l.length ≤ 1000000) (hb : cleanBad (n : Int) l = false) :
    ∀ (m i : Nat), i + m = n → Ev (fun k => lambrequinlaw10_GraphThrough.l0 k true (n : Int) l (a : Int) (b : Int) (reachL (rws n l) a) (reachL (rws n l) b) (i : Int)) true
  | 0, i, h => by
    refine Ev.step (fun k => by rw [lambrequinlaw10_GraphThrough.l0]) ?_
    refine Ev.neg (by omega) ?_
    by_cases hr : Rch (rws n l) a b
    · obtain ⟨p, hp, hpi, hpre⟩ := (Path_is hl hb ha hbn).1 hr
      exact Ev.bind hp (through_l1 ha hbn hl hb hpi hpre p 0 rfl)
    · refine Ev.bind ((Path_is hl hb ha hbn).2 hr) ?_
      refine Ev.step (fun k => by rw [lambrequinlaw10_GraphThrough.l1]) ?_
      exact Ev.neg (by simp) (Ev.now _)
  | m + 1, i, h => by
    have hn := bad_n hb
    have hi : i < n := by omega
    have e2 : wrap64 ((i : Int) + 1) = ((i + 1 : Nat) : Int) := wrap_up (by omega)
    have next := through_l0 ha hbn hl hb m (i + 1) (by omega)
    rw [← e2] at next
    have l1 := reach_len hb ha
    have l2 := reach_len hb hbn
    refine Ev.step (fun k => by rw [lambrequinlaw10_GraphThrough.l0]) ?_
    refine Ev.pos (by clear e2; omega) (Ev.pos (by clear e2; omega) (Ev.pos (by clear e2; omega) ?_))
    by_cases hr : rdOf false (reachL (rws n l) a) (b : Int) = true
    · refine Ev.pos hr (Ev.pos (by clear e2; omega) (Ev.pos (by clear e2; omega) ?_))
      by_cases hr2 : rdOf false (reachL (rws n l) b) (i : Int) = true
      · refine Ev.pos hr2 (Ev.pos (by clear e2; omega) (Ev.pos ?_ next))
        exact (reach_true hb ha hi).2 (((reach_true hb ha hbn).1 hr).trans ((reach_true hb hbn hi).1 hr2))
      · exact Ev.neg hr2 next
    · exact Ev.neg hr next
theorem GraphThrough_ev (a0 : Int) (h0 : 0 ≤ a0) (h1 : a0 < 256) (l : List BPair) (hl : l.length ≤ 9223372036854775807) (hb : ∀ e ∈ l, byteP e) (a2 : Int) (h4 : 0 ≤ a2) (h5 : a2 < 256) (a3 : Int) (h6 : 0 ≤ a3) (h7 : a3 < 256) : Ev (fun k => lambrequinlaw10_GraphThrough.f k a0 l a2 a3) true := by
  obtain ⟨n, es, hn, hn2, hev, hel, hin⟩ := ends_ev a0 h0 h1 l hl hb
  have w2 : wrap64 a2 = a2 := by unfold wrap64; omega
  have w3 : wrap64 a3 = a3 := by unfold wrap64; omega
  have t2 := tmod_in (v := a2) (n := (n : Int)) h4 (by clear w2 w3; omega)
  have t3 := tmod_in (v := a3) (n := (n : Int)) h6 (by clear w2 w3; omega)
  unfold lambrequinlaw10_GraphThrough.f
  simp only [w2, w3]
  clear w2 w3
  obtain ⟨a, ha⟩ := Int.eq_ofNat_of_zero_le t2.1
  obtain ⟨b, hbb⟩ := Int.eq_ofNat_of_zero_le t3.1
  have han : a < n := by omega
  have hbn : b < n := by omega
  have hbad := inE_bad hin (by omega)
  have r1 := reach_len hbad han
  have r2 := reach_len hbad hbn
  refine Ev.bind shown10_ev (Ev.bind hev ?_)
  simp only [ha, hbb]
  refine Ev.neg (by omega) (Ev.bind (Reach_ev (by omega) hbad han) (Ev.bind (Reach_ev (by omega) hbad hbn) (Ev.pos (by omega) ?_)))
  rw [show (((reachL (rws n es) b).length : Int) != (n : Int)) = false by rw [r2]; simp]
  refine Ev.step (fun k => by rw [lambrequinlaw10_GraphThrough.j0]) ?_
  exact Ev.neg (by decide) (through_l0 han hbn (by omega) hbad n 0 (by omega))
theorem GraphThrough_pure (a0 : Int) (w0 : (Lit.int .u8 a0).wf = true) (x1 : List BPair) (y1 : x1.length * 2 ≤ 140737488351232) (b1 : x1.length ≤ 9223372036854775807 ∧ ∀ y ∈ x1, bBPair y) (a2 : Int) (w2 : (Lit.int .u8 a2).wf = true) (a3 : Int) (w3 : (Lit.int .u8 a3).wf = true) :
    ∃ k, lambrequinlaw10_GraphThrough.f k a0 x1 a2 a3 = some true :=
  Ev.rounds (g := fun k => lambrequinlaw10_GraphThrough.f k a0 x1 a2 a3) (GraphThrough_ev a0 (byte_wf w0).1 (byte_wf w0).2 x1 b1.1 (bytes_of b1.2) a2 (byte_wf w2).1 (byte_wf w2).2 a3 (byte_wf w3).1 (byte_wf w3).2)
theorem GraphThrough_walk (w : World) (a0 : Int) (w0 : (Lit.int .u8 a0).wf = true) (x1 : (List BPair)) (A1 : Option Addr) (c1 : Nat) (l1 : x1.length ≤ c1) (g1 : Kd.C k45 w A1 x1.length x1) (y1 : x1.length * 2 ≤ 140737488351232) (b1 : x1.length ≤ 9223372036854775807 ∧ ∀ y ∈ x1, bBPair y) (a2 : Int) (w2 : (Lit.int .u8 a2).wf = true) (a3 : Int) (w3 : (Lit.int .u8 a3).wf = true) :
    Calls Try.prog 8 #[.int .u8 a0, .slice A1 x1.length c1, .int .u8 a2, .int .u8 a3] w fun e w' => e = .returned (.bool true) ∧ Below w.heap.size w w' := by
  obtain ⟨k, h⟩ := GraphThrough_pure a0 w0 x1 y1 b1 a2 w2 a3 w3
  exact (lambrequinlaw10_GraphThrough.calls k a0 A1 c1 x1 a2 a3 true w g1 l1 h).mono (fun e w' h' => ⟨h'.1, h'.2⟩)
end Go.Proofs.Ytmlhnjonmjmhdaa.H
namespace Go.Proofs.Ytmlhnjonmjmhdaa.graphThrough
open Go.ChangeShapes Go.WideShapes Go.ChangeAt Go.RowKit Go.Proofs.Ytmlhnjonmjmhdaa.H Go.Proofs.YtmlhnjonmjmhdaaW.PrintWords
open Go.ChangeMaps (open_string shut_string)
theorem own : ownKnob Try.prog.godebug = none := by kernel_rfl
theorem laidOut : laidOutB Try.prog = true := by kernel_rfl
set_option maxRecDepth 100000 in
theorem lifted (os : Os) (started : os.Started) (H : Type) (enc : TypeId × Value → H) :
    ReturnsInHanded {} Try.checked os 8 .any (Rows.graphThroughSpec.pre6 enc Try.prog Try.f8 Rows.graphThroughRow.domain false) (Rows.graphThroughSpec.post enc Try.prog Try.f8 false true false false) := by
  refine returnsInHanded_of_change_sized (C := Try.checked) own started (by kernel_rfl) Try.func8
    (ChangeSpec.witness6 (enc := enc) (C := Try.checked) false ⟨#[], #[.int .u8 0, .slice none 0 0, .int .u8 0, .int .u8 0], []⟩ 8 (by kernel_rfl) (by kernel_rfl) (by kernel_rfl) (by kernel_rfl)) ?_
  intro W base args ds gs before hval0 hW hcnd hsz0 _
  have hsz : (DataW.weightsEach Try.prog (Try.f8.params.toList ++ Rows.graphThroughSpec.plain.varTypes Try.prog) (ds ++ gs)).all (· ≤ reachBytes) = true := hsz0
  have hval : ∀ (j : Nat) t v, Try.f8.params[j]? = some t → args[j]? = some v → Value.okWide Try.prog W .any base t v := hval0
  have hW' := hW
  obtain ⟨p, q, hA0, hV, rfl, hfz, hnd⟩ := hW
  have hA : DataW.TrodAll enc Try.prog W 0 (fun _ => true) true Try.f8.params.toList args.toList ds p := hA0
  rw [Try.params8] at hA hval hsz
  obtain ⟨v0, vs0, d0, ds0, p0, q0, hargs, rfl, rfl, h0, r0⟩ := trodAll_cons hA
  obtain ⟨v1, vs1, d1, ds1, p1, q1, rfl, rfl, rfl, h1, r1⟩ := trodAll_cons r0
  obtain ⟨v2, vs2, d2, ds2, p2, q2, rfl, rfl, rfl, h2, r2⟩ := trodAll_cons r1
  obtain ⟨v3, vs3, d3, ds3, p3, q3, rfl, rfl, rfl, h3, r3⟩ := trodAll_cons r2
  obtain ⟨rfl, rfl, rfl⟩ := trodAll_nil r3
  obtain rfl : args = #[v0, v1, v2, v3] := by cases args; simp_all
  obtain ⟨rfl, rfl⟩ := trodVars_none hV
  obtain ⟨a0, rfl, rfl, rfl, w0⟩ := open_int Try.underlying5 (hval 0 5 v0 rfl rfl) h0
  have k1 := h1
  have lt1 : ∀ x ∈ p1, x.block < W.heap.size := by obtain ⟨m, hm⟩ := k1; exact DataW.trod_lt m _ _ _ hm
  obtain ⟨a1, len1, cap1, rfl⟩ := okWide_slice Try.underlying22 (hval 1 22 v1 rfl rfl)
  have y1 := sized_row hsz (j := 1) (t := 22) rfl rfl Try.underlying22 (B := 2) (by kernel_rfl) h1
  obtain ⟨x1, ⟨A1, c1, e1, l1, g1⟩, b1⟩ := (opens_slice Try.underlying22 (by kernel_rfl) opens_BPair 45).argB k1
  simp only [Value.cells, List.cons.injEq, and_true, Value.slice.injEq] at e1
  obtain ⟨rfl, rfl, rfl⟩ := e1
  obtain ⟨a2, rfl, rfl, rfl, w2⟩ := open_int Try.underlying5 (hval 2 5 v2 rfl rfl) h2
  obtain ⟨a3, rfl, rfl, rfl, w3⟩ := open_int Try.underlying5 (hval 3 5 v3 rfl rfl) h3
  clear hA0 hval0 hsz0 hsz
  refine (GraphThrough_walk W a0 w0 x1 a1 cap1 l1 g1 y1 b1 a2 w2 a3 w3).mono fun e W' ⟨he, bel⟩ => ?_
  subst he
  exact ⟨_, rfl, _, _, _, [], _, [], hW', trodAll_mk1 (shut_bool Try.underlying4 _), (trodAll_cons_mk (shut_int Try.underlying5 w0) (trodAll_cons_mk (Below.trod laidOut (by kernel_rfl) (of_decide_eq_true (by kernel_rfl)) k1 bel lt1) (trodAll_cons_mk (shut_int Try.underlying5 w2) (trodAll_cons_mk (shut_int Try.underlying5 w3) trodAll_mk0)))), rfl, bel.frame _, fun h => by cases h⟩
theorem over : Rows.graphThroughRow.holds Try.pinned (OpenSpec.ofChange Rows.graphThroughSpec) :=
  OpenClaim.holds_of_wide 8 Try.f8 rfl rfl rfl rfl rfl rfl rfl ⟨rfl, rfl, rfl, rfl, rfl⟩ rfl rfl rfl rfl rfl (by kernel_rfl) Try.func8 (by kernel_rfl)
    (of_decide_eq_true (by kernel_rfl)) (by unfold Func.isWrapper; first | (rw [if_pos (by decide +kernel)]; kernel_rfl) | (rw [if_neg (by decide +kernel)]; exact ⟨rfl, rfl⟩))
    (fun os started H enc _ => lifted os started H enc)
theorem proved : Rows.GraphThroughSaid := over
end Go.Proofs.Ytmlhnjonmjmhdaa.graphThrough
namespace Go.Proofs.Ytmlhnjonmjmhdaa
theorem graphThrough_holds : Rows.GraphThroughSaid := graphThrough.proved
#print axioms graphThrough_holds
end Go.Proofs.Ytmlhnjonmjmhdaa

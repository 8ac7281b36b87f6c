/- RowGraphMore of the seat's law GraphMore: the law holds, under the statement's own conditions. -/
import Derived.Test.YtmlhnjonmjmhdaaNXGraphMore
import Derived.Test.YtmlhnjonmjmhdaaNXGraphMore1
import Derived.Test.YtmlhnjonmjmhdaaRows
import Derived.Test.YtmlhnjonmjmhdaaNW
import Derived.WalkKit
import Derived.ProofKit
import Derived.OpenShut
import Derived.ShutString
import Derived.ChangeOld
import Derived.Below
import Derived.SizedLaws
import Derived.Carry
set_option linter.unusedVariables false
set_option linter.unusedSimpArgs false
set_option linter.unusedSectionVars false
namespace Go.Proofs.Ytmlhnjonmjmhdaa.H
open Go.RowKit Go.Proofs.YtmlhnjonmjmhdaaW.PrintWords Go.Proofs.YtmlhnjonmjmhdaaW.PrintLast Go.Proofs.YtmlhnjonmjmhdaaW.PrintMore
attribute [local go_sem] max2_int min2_int max_two min_two max_three min_three max_four min_four
mutual
def lambrequinlaw10_GraphMore.j0 : Nat → Bool → Int → List (IPair) → List (IPair) → List Bool → List Bool → Bool → Option (Bool)
 | 0, _, _, _, _, _, _, _ => none
 | k + 1, x9, x10, x11, x12, x14, x15, x70 => if x70 = true then (some false) else (lambrequinlaw10_GraphMore.l0 k x9 x10 x11 x12 x14 x15 0)
def lambrequinlaw10_GraphMore.l0 : Nat → Bool → Int → List (IPair) → List (IPair) → List Bool → List Bool → Int → Option (Bool)
 | 0, _, _, _, _, _, _, _ => none
 | k + 1, x9, x10, x11, x12, x14, x15, x16 => if x16 < x10 then (if 0 ≤ x16 then (if x16 < (x14.length : Int) then (if rdOf false x14 x16 = true then (if x16 < (x15.length : Int) then (if rdOf false x15 x16 = true then (lambrequinlaw10_GraphMore.l0 k x9 x10 x11 x12 x14 x15 (wrap64 (x16 + 1))) else (some false)) else (none)) else (lambrequinlaw10_GraphMore.l0 k x9 x10 x11 x12 x14 x15 (wrap64 (x16 + 1)))) else (none)) else (none)) else ((graph_Parts.f k x10 ([] : List (IPair))).bind fun t128 => (if (t128.length : Int) = x10 then (lambrequinlaw10_GraphMore.l1 k x9 x10 x11 x12 t128 0) else (some false)))
def lambrequinlaw10_GraphMore.l1 : Nat → Bool → Int → List (IPair) → List (IPair) → List (List Int) → Int → Option (Bool)
 | 0, _, _, _, _, _, _ => none
 | k + 1, x9, x10, x11, x12, x17, x18 => if x18 < x10 then (if 0 ≤ x18 then (if x18 < (x17.length : Int) then (if ((rd_L19 x17 x18).length : Int) = 1 then (if 0 < ((rd_L19 x17 x18).length : Int) then (if (rd (rd_L19 x17 x18) 0) = x18 then (lambrequinlaw10_GraphMore.l1 k x9 x10 x11 x12 x17 (wrap64 (x18 + 1))) else (some false)) else (none)) else (some false)) else (none)) else (none)) else (if x9 = true then ((graph_Parts.f k x10 x12).bind fun t134 => ((graph_Parts.f k x10 x11).bind fun t137 => (some (decide ((t134.length : Int) ≤ (t137.length : Int)))))) else (some false))
end
def lambrequinlaw10_GraphMore.f (k : Nat) (a0 : Int) (l1 : List (BPair)) (a2_0 : Int) (a2_1 : Int) (a3 : Int) : Option (Bool) := (lambrequinlaw10_shown.f k).bind fun t102 => ((lambrequinlaw10_ends.f k a0 l1).bind fun bt103 => ((some (([] : List (IPair)) : List (IPair))).bind fun y107 => (if y107.length + bt103.2.length < 8796093022208 then ((some (y107 ++ bt103.2 : List (IPair))).bind fun y110 => (if bt103.1 = 0 then (none) else ((some (([(⟨Int.tmod (wrap64 (a2_0)) bt103.1, Int.tmod (wrap64 (a2_1)) bt103.1⟩ : IPair)] : List (IPair)) : List (IPair))).bind fun y113 => (if y110.length + y113.length < 8796093022208 then ((some (y110 ++ y113 : List (IPair))).bind fun y116 => ((graph_Reach.f k bt103.1 bt103.2 (Int.tmod (wrap64 (a3)) bt103.1)).bind fun t119 => ((graph_Reach.f k bt103.1 y116 (Int.tmod (wrap64 (a3)) bt103.1)).bind fun t122 => (if (t119.length : Int) = bt103.1 then (if (t122.length : Int) = bt103.1 then (if 0 ≤ (Int.tmod (wrap64 (a3)) bt103.1) then (if (Int.tmod (wrap64 (a3)) bt103.1) < (t119.length : Int) then (lambrequinlaw10_GraphMore.j0 k t102 bt103.1 bt103.2 y116 t119 t122 (!(rdOf false t119 (Int.tmod (wrap64 (a3)) bt103.1)))) else (none)) else (none)) else (lambrequinlaw10_GraphMore.j0 k t102 bt103.1 bt103.2 y116 t119 t122 true)) else (lambrequinlaw10_GraphMore.j0 k t102 bt103.1 bt103.2 y116 t119 t122 true))))) else (none))))) else (none))))
theorem lambrequinlaw10_GraphMore.mono_l : ∀ k, (∀ y0 y1 y2 y3 y4 y5 y6, LeO (lambrequinlaw10_GraphMore.j0 k y0 y1 y2 y3 y4 y5 y6) (lambrequinlaw10_GraphMore.j0 (k + 1) y0 y1 y2 y3 y4 y5 y6)) ∧ (∀ y0 y1 y2 y3 y4 y5 y6, LeO (lambrequinlaw10_GraphMore.l0 k y0 y1 y2 y3 y4 y5 y6) (lambrequinlaw10_GraphMore.l0 (k + 1) y0 y1 y2 y3 y4 y5 y6)) ∧ (∀ y0 y1 y2 y3 y4 y5, LeO (lambrequinlaw10_GraphMore.l1 k y0 y1 y2 y3 y4 y5) (lambrequinlaw10_GraphMore.l1 (k + 1) y0 y1 y2 y3 y4 y5))
 | 0 => ⟨fun _ _ _ _ _ _ _ r h => by simp [lambrequinlaw10_GraphMore.j0] at h, fun _ _ _ _ _ _ _ r h => by simp [lambrequinlaw10_GraphMore.l0] at h, fun _ _ _ _ _ _ r h => by simp [lambrequinlaw10_GraphMore.l1] at h⟩
 | k + 1 => by
  obtain ⟨ih0, ih1, ih2⟩ := lambrequinlaw10_GraphMore.mono_l k
  refine ⟨?_, ?_, ?_⟩
  ·intro y0 y1 y2 y3 y4 y5 y6
   unfold lambrequinlaw10_GraphMore.j0
   repeat' first
   | (with_reducible exact ih0 _ _ _ _ _ _ _)
   | (with_reducible exact ih1 _ _ _ _ _ _ _)
   | (with_reducible exact ih2 _ _ _ _ _ _)
   | (with_reducible exact graph_Parts.mono _ _ _)
   | (with_reducible exact graph_Reach.mono _ _ _ _)
   | (with_reducible exact lambrequinlaw10_ends.mono _ _ _)
   | (with_reducible exact lambrequinlaw10_shown.mono _)
   | (with_reducible exact LeO.refl _)
   | (with_reducible exact LeO.none _)
   | (with_reducible refine LeO.ite ?_ ?_)
   | (with_reducible refine LeO.bind ?_ (fun _ => ?_))
   | exact ih0 _ _ _ _ _ _ _
   | exact ih1 _ _ _ _ _ _ _
   | exact ih2 _ _ _ _ _ _
   | exact graph_Parts.mono _ _ _
   | exact graph_Reach.mono _ _ _ _
   | exact lambrequinlaw10_ends.mono _ _ _
   | exact lambrequinlaw10_shown.mono _
   | exact LeO.none _
   | refine LeO.ite ?_ ?_
   | refine LeO.bind ?_ (fun _ => ?_)
  ·intro y0 y1 y2 y3 y4 y5 y6
   unfold lambrequinlaw10_GraphMore.l0
   repeat' first
   | (with_reducible exact ih0 _ _ _ _ _ _ _)
   | (with_reducible exact ih1 _ _ _ _ _ _ _)
   | (with_reducible exact ih2 _ _ _ _ _ _)
   | (with_reducible exact graph_Parts.mono _ _ _)
   | (with_reducible exact graph_Reach.mono _ _ _ _)
   | (with_reducible exact lambrequinlaw10_ends.mono _ _ _)
   | (with_reducible exact lambrequinlaw10_shown.mono _)
   | (with_reducible exact LeO.refl _)
   | (with_reducible exact LeO.none _)
   | (with_reducible refine LeO.ite ?_ ?_)
   | (with_reducible refine LeO.bind ?_ (fun _ => ?_))
   | exact ih0 _ _ _ _ _ _ _
   | exact ih1 _ _ _ _ _ _ _
   | exact ih2 _ _ _ _ _ _
   | exact graph_Parts.mono _ _ _
   | exact graph_Reach.mono _ _ _ _
   | exact lambrequinlaw10_ends.mono _ _ _
   | exact lambrequinlaw10_shown.mono _
   | exact LeO.none _
   | refine LeO.ite ?_ ?_
   | refine LeO.bind ?_ (fun _ => ?_)
  ·intro y0 y1 y2 y3 y4 y5
   unfold lambrequinlaw10_GraphMore.l1
   repeat' first
   | (with_reducible exact ih0 _ _ _ _ _ _ _)
   | (with_reducible exact ih1 _ _ _ _ _ _ _)
   | (with_reducible exact ih2 _ _ _ _ _ _)
   | (with_reducible exact graph_Parts.mono _ _ _)
   | (with_reducible exact graph_Reach.mono _ _ _ _)
   | (with_reducible exact lambrequinlaw10_ends.mono _ _ _)
   | (with_reducible exact lambrequinlaw10_shown.mono _)
   | (with_reducible exact LeO.refl _)
   | (with_reducible exact LeO.none _)
   | (with_reducible refine LeO.ite ?_ ?_)
   | (with_reducible refine LeO.bind ?_ (fun _ => ?_))
   | exact ih0 _ _ _ _ _ _ _
   | exact ih1 _ _ _ _ _ _ _
   | exact ih2 _ _ _ _ _ _
   | exact graph_Parts.mono _ _ _
   | exact graph_Reach.mono _ _ _ _
   | exact lambrequinlaw10_ends.mono _ _ _
   | exact lambrequinlaw10_shown.mono _
   | exact LeO.none _
   | refine LeO.ite ?_ ?_
   | refine LeO.bind ?_ (fun _ => ?_)
theorem lambrequinlaw10_GraphMore.mono : ∀ a0 a1 a2 a3 a4 k, LeO (lambrequinlaw10_GraphMore.f k a0 a1 a2 a3 a4) (lambrequinlaw10_GraphMore.f (k + 1) a0 a1 a2 a3 a4) := by
 intro a0 a1 a2 a3 a4 k
 obtain ⟨ih0, ih1, ih2⟩ := lambrequinlaw10_GraphMore.mono_l k
 unfold lambrequinlaw10_GraphMore.f
 repeat' first
   | (with_reducible exact ih0 _ _ _ _ _ _ _)
   | (with_reducible exact ih1 _ _ _ _ _ _ _)
   | (with_reducible exact ih2 _ _ _ _ _ _)
   | (with_reducible exact graph_Parts.mono _ _ _)
   | (with_reducible exact graph_Reach.mono _ _ _ _)
   | (with_reducible exact lambrequinlaw10_ends.mono _ _ _)
   | (with_reducible exact lambrequinlaw10_shown.mono _)
   | (with_reducible exact LeO.refl _)
   | (with_reducible exact LeO.none _)
   | (with_reducible refine LeO.ite ?_ ?_)
   | (with_reducible refine LeO.bind ?_ (fun _ => ?_))
   | exact ih0 _ _ _ _ _ _ _
   | exact ih1 _ _ _ _ _ _ _
   | exact ih2 _ _ _ _ _ _
   | exact graph_Parts.mono _ _ _
   | exact graph_Reach.mono _ _ _ _
   | exact lambrequinlaw10_ends.mono _ _ _
   | exact lambrequinlaw10_shown.mono _
   | exact LeO.none _
   | refine LeO.ite ?_ ?_
   | refine LeO.bind ?_ (fun _ => ?_)
def lambrequinlaw10_GraphMore.T3 : Bool × List (List Nat × List Nat) := (true, [([], []), ([], []), ([0, 1], [0, 1]), ([], []), ([3], [3]), ([4], [4]), ([], []), ([5, 6], [5, 6]), ([], []), ([8], [8]), ([9], [9]), ([], []), ([10, 11], [10, 11]), ([7, 12], [7, 12]), ([13], [13]), ([2, 14, 2], [2, 14]), ([15, 15, 0, 1, 2, 3, 4, 5, 6, 7, 8, 9, 10, 11, 12, 13, 14, 15], [15])])
def lambrequinlaw10_GraphMore.B3 : List Nat := [0, 0, 3, 0, 8, 24, 0, 120, 0, 256, 768, 0, 3840, 8184, 16376, 32767, 65535]
theorem lambrequinlaw10_GraphMore.tab3 : rtab .any (opsOf Try.f7 3) = lambrequinlaw10_GraphMore.T3 := by kernel_rfl
theorem lambrequinlaw10_GraphMore.bits3 : waitsOk lambrequinlaw10_GraphMore.T3.2 lambrequinlaw10_GraphMore.B3 = true := by kernel_rfl
set_option maxHeartbeats 8000000 in
set_option maxRecDepth 100000 in
theorem lambrequinlaw10_GraphMore.calls (k : Nat) (a0 : Int) (A1 : Option Addr) (c1 : Nat) (l1 : List (BPair)) (a2_0 : Int) (a2_1 : Int) (a3 : Int) (r : Bool) (w : World) (hr1 : Kd.C k45 w A1 l1.length l1) (hc1 : l1.length ≤ c1) (h : lambrequinlaw10_GraphMore.f k a0 l1 a2_0 a2_1 a3 = some r) :
  Calls Try.prog 7 #[.int .u8 a0, .slice A1 l1.length c1, .agg #[.int .u8 a2_0, .int .u8 a2_1], .int .u8 a3] w fun e w' => e = .returned (.bool r) ∧ Below w.heap.size w w' := by
 have hu45 := Try.underlying45
 have hu27 := Try.underlying27
 have HR1 := am hr1
 have HC1 := am hc1
 clear hr1 hc1
 have HB := am (Below.refl w.heap.size w)
 have H : ((lambrequinlaw10_shown.f k).bind fun t102 => ((lambrequinlaw10_ends.f k a0 l1).bind fun bt103 => ((some (([] : List (IPair)) : List (IPair))).bind fun y107 => (if y107.length + bt103.2.length < 8796093022208 then ((some (y107 ++ bt103.2 : List (IPair))).bind fun y110 => (if bt103.1 = 0 then (none) else ((some (([(⟨Int.tmod (wrap64 (a2_0)) bt103.1, Int.tmod (wrap64 (a2_1)) bt103.1⟩ : IPair)] : List (IPair)) : List (IPair))).bind fun y113 => (if y110.length + y113.length < 8796093022208 then ((some (y110 ++ y113 : List (IPair))).bind fun y116 => ((graph_Reach.f k bt103.1 bt103.2 (Int.tmod (wrap64 (a3)) bt103.1)).bind fun t119 => ((graph_Reach.f k bt103.1 y116 (Int.tmod (wrap64 (a3)) bt103.1)).bind fun t122 => (if (t119.length : Int) = bt103.1 then (if (t122.length : Int) = bt103.1 then (if 0 ≤ (Int.tmod (wrap64 (a3)) bt103.1) then (if (Int.tmod (wrap64 (a3)) bt103.1) < (t119.length : Int) then (lambrequinlaw10_GraphMore.j0 k t102 bt103.1 bt103.2 y116 t119 t122 (!(rdOf false t119 (Int.tmod (wrap64 (a3)) bt103.1)))) else (none)) else (none)) else (lambrequinlaw10_GraphMore.j0 k t102 bt103.1 bt103.2 y116 t119 t122 true)) else (lambrequinlaw10_GraphMore.j0 k t102 bt103.1 bt103.2 y116 t119 t122 true))))) else (none))))) else (none))))) = some r := h
 clear h
 replace H := Option.bind_eq_some_iff.mp H
 obtain ⟨t102, A50, H⟩ := H
 replace H : ((lambrequinlaw10_ends.f k a0 l1).bind fun bt103 => ((some (([] : List (IPair)) : List (IPair))).bind fun y107 => (if y107.length + bt103.2.length < 8796093022208 then ((some (y107 ++ bt103.2 : List (IPair))).bind fun y110 => (if bt103.1 = 0 then (none) else ((some (([(⟨Int.tmod (wrap64 (a2_0)) bt103.1, Int.tmod (wrap64 (a2_1)) bt103.1⟩ : IPair)] : List (IPair)) : List (IPair))).bind fun y113 => (if y110.length + y113.length < 8796093022208 then ((some (y110 ++ y113 : List (IPair))).bind fun y116 => ((graph_Reach.f k bt103.1 bt103.2 (Int.tmod (wrap64 (a3)) bt103.1)).bind fun t119 => ((graph_Reach.f k bt103.1 y116 (Int.tmod (wrap64 (a3)) bt103.1)).bind fun t122 => (if (t119.length : Int) = bt103.1 then (if (t122.length : Int) = bt103.1 then (if 0 ≤ (Int.tmod (wrap64 (a3)) bt103.1) then (if (Int.tmod (wrap64 (a3)) bt103.1) < (t119.length : Int) then (lambrequinlaw10_GraphMore.j0 k t102 bt103.1 bt103.2 y116 t119 t122 (!(rdOf false t119 (Int.tmod (wrap64 (a3)) bt103.1)))) else (none)) else (none)) else (lambrequinlaw10_GraphMore.j0 k t102 bt103.1 bt103.2 y116 t119 t122 true)) else (lambrequinlaw10_GraphMore.j0 k t102 bt103.1 bt103.2 y116 t119 t122 true))))) else (none))))) else (none)))) = some r := H
 have A5 := am A50
 clear A50
 replace H := Option.bind_eq_some_iff.mp H
 obtain ⟨⟨t103, t104⟩, A60, H⟩ := H
 replace H : ((some (([] : List (IPair)) : List (IPair))).bind fun y107 => (if y107.length + t104.length < 8796093022208 then ((some (y107 ++ t104 : List (IPair))).bind fun y110 => (if t103 = 0 then (none) else ((some (([(⟨Int.tmod (wrap64 (a2_0)) t103, Int.tmod (wrap64 (a2_1)) t103⟩ : IPair)] : List (IPair)) : List (IPair))).bind fun y113 => (if y110.length + y113.length < 8796093022208 then ((some (y110 ++ y113 : List (IPair))).bind fun y116 => ((graph_Reach.f k t103 t104 (Int.tmod (wrap64 (a3)) t103)).bind fun t119 => ((graph_Reach.f k t103 y116 (Int.tmod (wrap64 (a3)) t103)).bind fun t122 => (if (t119.length : Int) = t103 then (if (t122.length : Int) = t103 then (if 0 ≤ (Int.tmod (wrap64 (a3)) t103) then (if (Int.tmod (wrap64 (a3)) t103) < (t119.length : Int) then (lambrequinlaw10_GraphMore.j0 k t102 t103 t104 y116 t119 t122 (!(rdOf false t119 (Int.tmod (wrap64 (a3)) t103)))) else (none)) else (none)) else (lambrequinlaw10_GraphMore.j0 k t102 t103 t104 y116 t119 t122 true)) else (lambrequinlaw10_GraphMore.j0 k t102 t103 t104 y116 t119 t122 true))))) else (none))))) else (none))) = some r := H
 have A6 := am A60
 clear A60
 obtain ⟨y107, hy107⟩ : ∃ y_ : List (IPair), y_ = (([] : List (IPair))) := ⟨_, rfl⟩
 replace H : (if y107.length + t104.length < 8796093022208 then ((some (y107 ++ t104 : List (IPair))).bind fun y110 => (if t103 = 0 then (none) else ((some (([(⟨Int.tmod (wrap64 (a2_0)) t103, Int.tmod (wrap64 (a2_1)) t103⟩ : IPair)] : List (IPair)) : List (IPair))).bind fun y113 => (if y110.length + y113.length < 8796093022208 then ((some (y110 ++ y113 : List (IPair))).bind fun y116 => ((graph_Reach.f k t103 t104 (Int.tmod (wrap64 (a3)) t103)).bind fun t119 => ((graph_Reach.f k t103 y116 (Int.tmod (wrap64 (a3)) t103)).bind fun t122 => (if (t119.length : Int) = t103 then (if (t122.length : Int) = t103 then (if 0 ≤ (Int.tmod (wrap64 (a3)) t103) then (if (Int.tmod (wrap64 (a3)) t103) < (t119.length : Int) then (lambrequinlaw10_GraphMore.j0 k t102 t103 t104 y116 t119 t122 (!(rdOf false t119 (Int.tmod (wrap64 (a3)) t103)))) else (none)) else (none)) else (lambrequinlaw10_GraphMore.j0 k t102 t103 t104 y116 t119 t122 true)) else (lambrequinlaw10_GraphMore.j0 k t102 t103 t104 y116 t119 t122 true))))) else (none))))) else (none)) = some r := by first | (rw [hy107]; with_reducible exact H) | (have H2_ := (Option.bind_some _ _).symm.trans H; rw [hy107]; with_reducible exact H2_) | (have H2_ := (Option.bind_some _ _).symm.trans H; with_reducible exact H2_) | with_reducible exact H | (rw [hy107]; exact H) | exact H
 have Ny107 := am hy107
 clear hy107
 by_cases c7 : y107.length + t104.length < 8796093022208
 ·rw [if_pos c7] at H
  have LMc7 := am c7
  clear c7
  obtain ⟨y110, hy110⟩ : ∃ y_ : List (IPair), y_ = (y107 ++ t104) := ⟨_, rfl⟩
  replace H : (if t103 = 0 then (none) else ((some (([(⟨Int.tmod (wrap64 (a2_0)) t103, Int.tmod (wrap64 (a2_1)) t103⟩ : IPair)] : List (IPair)) : List (IPair))).bind fun y113 => (if y110.length + y113.length < 8796093022208 then ((some (y110 ++ y113 : List (IPair))).bind fun y116 => ((graph_Reach.f k t103 t104 (Int.tmod (wrap64 (a3)) t103)).bind fun t119 => ((graph_Reach.f k t103 y116 (Int.tmod (wrap64 (a3)) t103)).bind fun t122 => (if (t119.length : Int) = t103 then (if (t122.length : Int) = t103 then (if 0 ≤ (Int.tmod (wrap64 (a3)) t103) then (if (Int.tmod (wrap64 (a3)) t103) < (t119.length : Int) then (lambrequinlaw10_GraphMore.j0 k t102 t103 t104 y116 t119 t122 (!(rdOf false t119 (Int.tmod (wrap64 (a3)) t103)))) else (none)) else (none)) else (lambrequinlaw10_GraphMore.j0 k t102 t103 t104 y116 t119 t122 true)) else (lambrequinlaw10_GraphMore.j0 k t102 t103 t104 y116 t119 t122 true))))) else (none)))) = some r := by first | (rw [hy110]; with_reducible exact H) | (have H2_ := (Option.bind_some _ _).symm.trans H; rw [hy110]; with_reducible exact H2_) | (have H2_ := (Option.bind_some _ _).symm.trans H; with_reducible exact H2_) | with_reducible exact H | (rw [hy110]; exact H) | exact H
  have Ny110 := am hy110
  clear hy110
  by_cases c8 : t103 = 0
  ·rw [if_pos c8] at H
   exact absurd H (by simp)
  ·rw [if_neg c8] at H
   have c8b0 : (t103 == 0) = false := beq_eq_false_iff_ne.mpr c8
   have c8b1 : (t103 != 0) = true := bne_iff_ne.mpr c8
   obtain ⟨y113, hy113⟩ : ∃ y_ : List (IPair), y_ = (([(⟨Int.tmod (wrap64 (a2_0)) t103, Int.tmod (wrap64 (a2_1)) t103⟩ : IPair)] : List (IPair))) := ⟨_, rfl⟩
   replace H : (if y110.length + y113.length < 8796093022208 then ((some (y110 ++ y113 : List (IPair))).bind fun y116 => ((graph_Reach.f k t103 t104 (Int.tmod (wrap64 (a3)) t103)).bind fun t119 => ((graph_Reach.f k t103 y116 (Int.tmod (wrap64 (a3)) t103)).bind fun t122 => (if (t119.length : Int) = t103 then (if (t122.length : Int) = t103 then (if 0 ≤ (Int.tmod (wrap64 (a3)) t103) then (if (Int.tmod (wrap64 (a3)) t103) < (t119.length : Int) then (lambrequinlaw10_GraphMore.j0 k t102 t103 t104 y116 t119 t122 (!(rdOf false t119 (Int.tmod (wrap64 (a3)) t103)))) else (none)) else (none)) else (lambrequinlaw10_GraphMore.j0 k t102 t103 t104 y116 t119 t122 true)) else (lambrequinlaw10_GraphMore.j0 k t102 t103 t104 y116 t119 t122 true))))) else (none)) = some r := by first | (rw [hy113]; with_reducible exact H) | (have H2_ := (Option.bind_some _ _).symm.trans H; rw [hy113]; with_reducible exact H2_) | (have H2_ := (Option.bind_some _ _).symm.trans H; with_reducible exact H2_) | with_reducible exact H | (rw [hy113]; exact H) | exact H
   have Ny113 := am hy113
   clear hy113
   by_cases c9 : y110.length + y113.length < 8796093022208
   ·rw [if_pos c9] at H
    have LMc9 := am c9
    clear c9
    obtain ⟨y116, hy116⟩ : ∃ y_ : List (IPair), y_ = (y110 ++ y113) := ⟨_, rfl⟩
    replace H : ((graph_Reach.f k t103 t104 (Int.tmod (wrap64 (a3)) t103)).bind fun t119 => ((graph_Reach.f k t103 y116 (Int.tmod (wrap64 (a3)) t103)).bind fun t122 => (if (t119.length : Int) = t103 then (if (t122.length : Int) = t103 then (if 0 ≤ (Int.tmod (wrap64 (a3)) t103) then (if (Int.tmod (wrap64 (a3)) t103) < (t119.length : Int) then (lambrequinlaw10_GraphMore.j0 k t102 t103 t104 y116 t119 t122 (!(rdOf false t119 (Int.tmod (wrap64 (a3)) t103)))) else (none)) else (none)) else (lambrequinlaw10_GraphMore.j0 k t102 t103 t104 y116 t119 t122 true)) else (lambrequinlaw10_GraphMore.j0 k t102 t103 t104 y116 t119 t122 true)))) = some r := by first | (rw [hy116]; with_reducible exact H) | (have H2_ := (Option.bind_some _ _).symm.trans H; rw [hy116]; with_reducible exact H2_) | (have H2_ := (Option.bind_some _ _).symm.trans H; with_reducible exact H2_) | with_reducible exact H | (rw [hy116]; exact H) | exact H
    have Ny116 := am hy116
    clear hy116
    replace H := Option.bind_eq_some_iff.mp H
    obtain ⟨t119, A100, H⟩ := H
    replace H : ((graph_Reach.f k t103 y116 (Int.tmod (wrap64 (a3)) t103)).bind fun t122 => (if (t119.length : Int) = t103 then (if (t122.length : Int) = t103 then (if 0 ≤ (Int.tmod (wrap64 (a3)) t103) then (if (Int.tmod (wrap64 (a3)) t103) < (t119.length : Int) then (lambrequinlaw10_GraphMore.j0 k t102 t103 t104 y116 t119 t122 (!(rdOf false t119 (Int.tmod (wrap64 (a3)) t103)))) else (none)) else (none)) else (lambrequinlaw10_GraphMore.j0 k t102 t103 t104 y116 t119 t122 true)) else (lambrequinlaw10_GraphMore.j0 k t102 t103 t104 y116 t119 t122 true))) = some r := H
    have A10 := am A100
    clear A100
    replace H := Option.bind_eq_some_iff.mp H
    obtain ⟨t122, A110, H⟩ := H
    replace H : (if (t119.length : Int) = t103 then (if (t122.length : Int) = t103 then (if 0 ≤ (Int.tmod (wrap64 (a3)) t103) then (if (Int.tmod (wrap64 (a3)) t103) < (t119.length : Int) then (lambrequinlaw10_GraphMore.j0 k t102 t103 t104 y116 t119 t122 (!(rdOf false t119 (Int.tmod (wrap64 (a3)) t103)))) else (none)) else (none)) else (lambrequinlaw10_GraphMore.j0 k t102 t103 t104 y116 t119 t122 true)) else (lambrequinlaw10_GraphMore.j0 k t102 t103 t104 y116 t119 t122 true)) = some r := H
    have A11 := am A110
    clear A110
    have HC12 := am H
    clear H
    go_enter Try.func7, Try.ntmps7
    try go_wp2_with (first | ((with_reducible refine gate_dst (N := 6) rfl ?_); (try (refine gate_guard (by rfl) ?_; dsimp only)); refine box_event ?hg (N := 6) ?hd (cs := #[.int .u8 a2_0, .int .u8 a2_1]) (t := 45) ?hr ?_; (case hd => rfl); (case hg => rfl); (case hr => first | (go_simp; done) | (go_simp; rfl)); intro gb101 hg w13 hbox hb; have BK101 := am (hbox); have GW101 := am ((by rw [hg]; exact (below_size (by repeat (first | (with_reducible first | exact HB.out | apply lA | apply lN | apply lD) | exact HB.out))) : w.heap.size ≤ gb101)); have GE101 := am ((by rw [hg]; exact (below_size (by repeat (first | (with_reducible first | exact HB.out | apply lA | apply lN | apply lD) | exact HB.out))) : w.heap.size ≤ gb101)); replace HB := am (below_step (by repeat (first | (with_reducible first | exact HB.out | apply lA | apply lN | apply lD) | exact HB.out)) hb); clear hb hbox hg) | ((with_reducible refine gate_callee (f := 14) rfl ?_); refine goesL_ (some 19) rfl rfl Try.func14 (by kernel_rfl) rfl #[] rfl (by (try simp only [List.map_toArray, List.map_cons, List.map_nil]); first | done | rfl | (simp only [List.length_drop, List.length_take]; rfl)) ?_; (with_reducible refine (lambrequinlaw10_shown.calls k  t102 _ A5.out).mono ?_); rintro e w14 ⟨rfl, hb⟩; refine ⟨_, rfl, ?_⟩; replace BK101 := am (blk_below (g := gb101) (o := .cells #[.int .u8 a2_0, .int .u8 a2_1] 45 (0, 0)) (by (with_reducible repeat (first | refine bN ?_ _ | refine bD ?_ | refine bA ?_ _)); exact BK101.out) hb); replace HB := am (below_step (by repeat (first | (with_reducible first | exact HB.out | apply lA | apply lN | apply lD | refine lS ?_ GE101.out) | exact HB.out)) hb); (try clear hb); (try clear hb2); (try clear hk); (try clear hi)) | ((with_reducible refine gate_callee (f := 15) rfl ?_); refine goesL_ (some 23) rfl rfl Try.func15 (by kernel_rfl) rfl #[.int .u8 a0, .slice A1 l1.length c1] rfl (by (try simp only [List.map_toArray, List.map_cons, List.map_nil]); first | done | rfl | (simp only [List.length_drop, List.length_take]; rfl)) ?_; (with_reducible refine (lambrequinlaw10_ends.calls k a0 _ _ l1 t103 t104 _ ?side1 ?side2 A6.out).mono ?_); (case side1 => repeat (first | exact (Kd.C_below HR1.out HB.out) | (with_reducible refine Kd.C_alloc ?_ _) | (with_reducible refine Kd.C_drewN ?_ _) | (with_reducible refine Kd.C_drew ?_))); (case side2 => exact HC1.out); rintro e w15 ⟨v105, rfl, ho0, hb⟩; refine ⟨_, rfl, ?_⟩; have HO106 := am (Kd.R_lower ho0 (below_size (by repeat (first | (with_reducible first | exact HB.out | apply lA | apply lN | apply lD | refine lS ?_ GE101.out) | exact HB.out)))); replace BK101 := am (blk_below (g := gb101) (o := .cells #[.int .u8 a2_0, .int .u8 a2_1] 45 (0, 0)) (by (with_reducible repeat (first | refine bN ?_ _ | refine bD ?_ | refine bA ?_ _)); exact BK101.out) hb); replace HB := am (below_step (by repeat (first | (with_reducible first | exact HB.out | apply lA | apply lN | apply lD | refine lS ?_ GE101.out) | exact HB.out)) hb); (try clear hb); (try clear hb2); (try clear hk); (try clear hi); (try clear ho0); obtain ⟨Ao16, co16, eo16⟩ := Kd.R_slice HO106.out; subst eo16))
    replace HO106 := am (Kd.R_drew HO106.out)
    replace BK101 := am (blk_drew BK101.out)
    replace HB := am (below_drew1 HB.out)
    refine start_ (n := 17) (S := fun w' => w'.cell? ⟨gb101, 0, none⟩ = some (.int .u8 a2_0) ∧ w'.cell? ⟨gb101, 1, none⟩ = some (.int .u8 a2_1)) (ds := []) (bl 17 0) (by kernel_rfl) rfl rfl ⟨(blk_cell BK101.out 0).trans rfl, (blk_cell BK101.out 1).trans rfl⟩ (fun hHeld => ?_); refine with_tabW lambrequinlaw10_GraphMore.tab3 lambrequinlaw10_GraphMore.bits3 (fun HT_ HW_ => ?_)
    generalize w15.drew = w17 at HO106 BK101 HB hHeld ⊢
    refine pure_ (i := 1) (N := some 27) (v := ?_) (a' := ?_) (bl 17 2) rfl rfl (any_of HT_.out (by kernel_rfl)) (fun _ _ _ h => h) (Or.inl ⟨by rfl, ?_⟩) ?_ ?_
    rotate_left
    ·intro w'
     go_simp
     with_reducible rfl
    rotate_left
    ·simp only [Act.put, sA, sZ, sS, i64_w, i32_w]
     rfl
    refine pure_ (i := 3) (N := some 29) (v := ?_) (a' := ?_) (bl 17 10) rfl rfl (any_of HT_.out (by kernel_rfl)) (fun _ _ _ h => h) (Or.inl ⟨by rfl, ?_⟩) ?_ ?_
    rotate_left
    ·intro w'
     go_simp
     with_reducible rfl
    rotate_left
    ·simp only [Act.put, sA, sZ, sS, i64_w, i32_w]
     rfl
    refine pure_ (i := 6) (N := some 32) (v := ?_) (a' := ?_) (bl 17 74) rfl rfl (any_of HT_.out (by kernel_rfl)) (fun _ _ _ h => h) (Or.inl ⟨by rfl, ?_⟩) ?_ ?_
    rotate_left
    ·intro w'
     go_simp
     with_reducible rfl
    rotate_left
    ·simp only [Act.put, sA, sZ, sS, i64_w, i32_w]
     rfl
    refine pure_ (i := 8) (N := some 34) (v := ?_) (a' := ?_) (bl 17 330) rfl rfl (any_of HT_.out (by kernel_rfl)) (fun _ _ _ h => h) (Or.inl ⟨by rfl, ?_⟩) ?_ ?_
    rotate_left
    ·intro w'
     go_simp
     with_reducible rfl
    rotate_left
    ·simp only [Act.put, sA, sZ, sS, i64_w, i32_w]
     rfl
    refine pure_ (i := 11) (N := some 37) (v := ?_) (a' := ?_) (bl 17 2378) rfl rfl (any_of HT_.out (by kernel_rfl)) (fun _ _ _ h => h) (Or.inl ⟨by rfl, ?_⟩) ?_ ?_
    rotate_left
    ·intro w'
     go_simp
     with_reducible rfl
    rotate_left
    ·simp only [Act.put, sA, sZ, sS, i64_w, i32_w]
     rfl
    refine take_ (i := 4) (N := some 30) (v := ?_) (a' := ?_) (bl 17 2394) rfl rfl (take_ofW HT_.out HW_.out (by kernel_rfl)) (fun _ _ _ h => h) (Or.inl ⟨by rfl, ?_⟩) hHeld ?_ ?_
    rotate_left
    ·rintro w' ⟨s0, s1⟩
     go_simp
     with_reducible rfl
    rotate_left
    ·simp only [Act.put, sA, sZ, sS, i64_w, i32_w]
     rfl
    refine pure_ (i := 5) (N := some 31) (v := ?_) (a' := ?_) (bl 17 2426) rfl rfl (any_of HT_.out (by kernel_rfl)) (fun _ _ _ h => h) (Or.inl ⟨by rfl, ?_⟩) ?_ ?_
    rotate_left
    ·intro w'
     go_simp
     with_reducible rfl
    rotate_left
    ·simp only [Act.put, sA, sZ, sS, i64_w, i32_w]
     rfl
    refine pure_ (i := 7) (N := some 33) (v := ?_) (a' := ?_) (bl 17 2554) rfl rfl (any_of HT_.out (by kernel_rfl)) (fun _ _ _ h => h) (Or.inl ⟨by rfl, ?_⟩) ?_ ?_
    rotate_left
    ·intro w'
     go_simp
     with_reducible rfl
    rotate_left
    ·simp only [Act.put, sA, sZ, sS, i64_w, i32_w]
     rfl
    refine take_ (i := 9) (N := some 35) (v := ?_) (a' := ?_) (bl 17 3066) rfl rfl (take_ofW HT_.out HW_.out (by kernel_rfl)) (fun _ _ _ h => h) (Or.inl ⟨by rfl, ?_⟩) hHeld ?_ ?_
    rotate_left
    ·rintro w' ⟨s0, s1⟩
     go_simp
     with_reducible rfl
    rotate_left
    ·simp only [Act.put, sA, sZ, sS, i64_w, i32_w]
     rfl
    refine pure_ (i := 10) (N := some 36) (v := ?_) (a' := ?_) (bl 17 4090) rfl rfl (any_of HT_.out (by kernel_rfl)) (fun _ _ _ h => h) (Or.inl ⟨by rfl, ?_⟩) ?_ ?_
    rotate_left
    ·intro w'
     go_simp
     with_reducible rfl
    rotate_left
    ·simp only [Act.put, sA, sZ, sS, i64_w, i32_w]
     rfl
    refine pure_ (i := 12) (N := some 38) (v := ?_) (a' := ?_) (bl 17 8186) rfl rfl (any_of HT_.out (by kernel_rfl)) (fun _ _ _ h => h) (Or.inl ⟨by rfl, ?_⟩) ?_ ?_
    rotate_left
    ·intro w'
     go_simp
     with_reducible rfl
    rotate_left
    ·simp only [Act.put, sA, sZ, sS, i64_w, i32_w]
     rfl
    refine pure_ (i := 13) (N := some 39) (v := ?_) (a' := ?_) (bl 17 16378) rfl rfl (any_of HT_.out (by kernel_rfl)) (fun _ _ _ h => h) (Or.inl ⟨by rfl, ?_⟩) ?_ ?_
    rotate_left
    ·intro w'
     go_simp
     with_reducible rfl
    rotate_left
    ·simp only [Act.put, sA, sZ, sS, i64_w, i32_w]
     rfl
    refine join_ (σ := Value × Value × Value) 2 (bl 17 32767) (fun s_ => [(26, s_.1), (28, s_.2.1), (40, s_.2.2)]) (fun s_ w' => (w'.cell? ⟨gb101, 0, none⟩ = some (.int .u8 a2_0) ∧ w'.cell? ⟨gb101, 1, none⟩ = some (.int .u8 a2_1)) ∧ (Kd.R k27 27 w' w.heap.size (fun k_ => some k_ ≠ (s_.2.1 : Value).ownBlock ∧ some k_ ≠ (s_.2.2 : Value).ownBlock) (.slice Ao16 t104.length co16) t104) ∧ (Kd.R k27 27 w' w.heap.size (fun k_ => some k_ ≠ (.slice Ao16 t104.length co16 : Value).ownBlock ∧ some k_ ≠ (s_.2.2 : Value).ownBlock) s_.2.1 y110) ∧ (Kd.R k27 27 w' w.heap.size (fun k_ => some k_ ≠ (.slice Ao16 t104.length co16 : Value).ownBlock ∧ some k_ ≠ (s_.2.1 : Value).ownBlock) s_.2.2 y113) ∧ (w'.heap[gb101]? = some (.cells #[.int .u8 a2_0, .int .u8 a2_1] 45 (0, 0))) ∧ (Below w.heap.size w w')) ?_ ?_
    rotate_left
    ·intro hCont
     refine two_ (i := 0) (j := 14) (Ni := some 26) (Nj := some 40) (bl 17 16379) (bl 17 32762) rfl rfl rfl rfl (two_of HT_.out (by kernel_rfl)) (by decide) (by decide) (fun K hK => ?_) (fun K hK => ?_)
     ·skip
      refine Kd.R_lit_step k27 _ 27 ?hg (N := 26) ?hd (xs := ([] : List (IPair))) (inner := []) (ok := fun _ => True) (okp := fun _ => True) ?hr ?hp (fun _ hk => hk) trivial (Below.refl _ _) (Nat.le_refl _) (by simp) ?_; (case hd => rfl); (case hg => rfl); (case hr => first | (go_simp; done) | (go_simp; rfl)); (case hp => exact (Reps.none _ _))
      intro v108 w18 ho19 hb hg_ hnew_
      clear hg_ hnew_
      (first | rw [← Ny107.out] at ho19 | (simp only [Int.reduceToNat] at ho19; rw [← Ny107.out] at ho19))
      have HO109 := am (Kd.R_lower (Kd.R_new' ho19 (Kd.R_lt (by (with_reducible repeat (first | apply Ra | apply Rn | apply Rd)); exact HO106.out))) (below_size (by repeat (first | (with_reducible first | exact HB.out | apply lA | apply lN | apply lD | refine lS ?_ GE101.out) | exact HB.out))))
      replace HO106 := am (Kd.R_elder' (by (with_reducible repeat (first | apply Ra | apply Rn | apply Rd)); exact HO106.out) (Kd.R_base ho19) hb)
      replace BK101 := am (blk_below (g := gb101) (o := .cells #[.int .u8 a2_0, .int .u8 a2_1] 45 (0, 0)) (by (with_reducible repeat (first | refine bN ?_ _ | refine bD ?_ | refine bA ?_ _)); exact BK101.out) hb)
      replace HB := am (below_step (by repeat (first | (with_reducible first | exact HB.out | apply lA | apply lN | apply lD | refine lS ?_ GE101.out) | exact HB.out)) hb)
      clear hb ho19
      refine hK.out _ _ ⟨(blk_cell BK101.out 0).trans rfl, (blk_cell BK101.out 1).trans rfl⟩ (fun hHeld => ?_)
      clear hK K
      refine norm_ (a' := ?_) ?_ ?_
      rotate_left
      ·show Act.put _ (some 26) _ = _
       simp only [Act.put, sA, sZ, sS, i64_w, i32_w]
       rfl
      refine two_ (i := 2) (j := 14) (Ni := some 28) (Nj := some 40) (bl 17 16383) (bl 17 32763) rfl rfl rfl rfl (two_of HT_.out (by kernel_rfl)) (by decide) (by decide) (fun K hK => ?_) (fun K hK => ?_)
      ·skip
       refine Kd.R_append_rows_step k27 (w0 := w) w.heap.size (by rfl) (.tmp 26) (.tmp 27) 24 27 (.agg #[(.int .i64 0), (.int .i64 0)]) 16 rfl Try.underlying24 info27 rfl (by decide) (by omega) v108 y107 t104 _ _ _ (fun k_ => some k_ ≠ (.slice Ao16 t104.length co16 : Value).ownBlock) (fun _ => False) rfl rfl ?aO ?aR (fun _ _ h => h) (fun _ h => h.elim) ?aF ?aB ?aS ?aL ?_
       (case aR => repeat (first | exact (Kd.R_reads' HO106.out).2.2 | (with_reducible refine Kd.C_alloc ?_ _) | (with_reducible refine Kd.C_drewN ?_ _) | (with_reducible refine Kd.C_drew ?_)))
       (case aB => exact (by repeat (first | (with_reducible first | exact HB.out | apply lA | apply lN | apply lD | refine lS ?_ GE101.out) | exact HB.out)))
       (case aF => exact (fun k_ hk => Kd.fresh' (Kd.R_lt (by (with_reducible repeat (first | apply Ra | apply Rn | apply Rd)); exact HO106.out)) k_ hk))
       (case aO => exact (by (with_reducible repeat (first | apply Ra | apply Rn | apply Rd)); exact Kd.R_mono HO109.out (fun _ hk => hk.2)))
       (case aS => exact (below_size (by repeat (first | (with_reducible first | exact HB.out | apply lA | apply lN | apply lD | refine lS ?_ GE101.out) | exact HB.out))))
       (case aL => have := LMc7.out; omega)
       intro v111 w20 ho hb hg hat
       rw [← Ny110.out] at ho
       replace BK101 := am (blk_grown (g := gb101) (o := .cells #[.int .u8 a2_0, .int .u8 a2_1] 45 (0, 0)) (by (with_reducible repeat (first | refine bN ?_ _ | refine bD ?_ | refine bA ?_ _)); exact BK101.out) hg (Kd.R_ne HO109.out BK101.out (by decide)))
       replace HO106 := am (Kd.R_after (ok := (fun _ => True)) (by (with_reducible repeat (first | apply Ra | apply Rn | apply Rd)); exact HO106.out) hg hat)
       replace HB := am (hb)
       have HO112 := am (ho)
       clear HO109
       clear ho hb hg hat
       refine hK.out _ _ ⟨(blk_cell BK101.out 0).trans rfl, (blk_cell BK101.out 1).trans rfl⟩ (fun hHeld => ?_)
       clear hK K
       refine norm_ (a' := ?_) ?_ ?_
       rotate_left
       ·show Act.put _ (some 28) _ = _
        simp only [Act.put, sA, sZ, sS, i64_w, i32_w]
        rfl
       refine one_ (i := 14) (N := some 40) (bl 17 32767) rfl rfl (one_of HT_.out (by kernel_rfl)) (by decide) (fun K hK => ?_)
       refine Kd.R_lit_step k27 _ 27 ?hg (N := 40) ?hd (xs := ([(⟨Int.tmod (wrap64 (a2_0)) t103, Int.tmod (wrap64 (a2_1)) t103⟩ : IPair)] : List (IPair))) (inner := [.int .i64 (Int.tmod (wrap64 (a2_0)) t103), .int .i64 (Int.tmod (wrap64 (a2_1)) t103)]) (ok := fun _ => True) (okp := fun _ => True) ?hr ?hp (fun _ hk => hk) trivial (Below.refl _ _) (Nat.le_refl _) (by simp) ?_; (case hd => rfl); (case hg => rfl); (case hr => first | (go_simp; done) | (go_simp; rfl)); (case hp => exact (Reps.c2 (show Kd.M k27 _ _ _ (⟨Int.tmod (wrap64 (a2_0)) t103, Int.tmod (wrap64 (a2_1)) t103⟩ : IPair) [.int .i64 (Int.tmod (wrap64 (a2_0)) t103), .int .i64 (Int.tmod (wrap64 (a2_1)) t103)] from (k27_mkM _ _ _ (⟨Int.tmod (wrap64 (a2_0)) t103, Int.tmod (wrap64 (a2_1)) t103⟩ : IPair) )) (Reps.none _ _)))
       intro v114 w21 ho22 hb hg_ hnew_
       clear hg_ hnew_
       (first | rw [← Ny113.out] at ho22 | (simp only [Int.reduceToNat] at ho22; rw [← Ny113.out] at ho22))
       have HO115 := am (Kd.R_lower (Kd.R_new' (Kd.R_new' ho22 (Kd.R_lt (by (with_reducible repeat (first | apply Ra | apply Rn | apply Rd)); exact HO106.out))) (Kd.R_lt (by (with_reducible repeat (first | apply Ra | apply Rn | apply Rd)); exact HO112.out))) (below_size (by repeat (first | (with_reducible first | exact HB.out | apply lA | apply lN | apply lD | refine lS ?_ GE101.out) | exact HB.out))))
       replace HO106 := am (Kd.R_elder' (by (with_reducible repeat (first | apply Ra | apply Rn | apply Rd)); exact HO106.out) (Kd.R_base ho22) hb)
       replace HO112 := am (Kd.R_elder' (by (with_reducible repeat (first | apply Ra | apply Rn | apply Rd)); exact HO112.out) (Kd.R_base ho22) hb)
       replace BK101 := am (blk_below (g := gb101) (o := .cells #[.int .u8 a2_0, .int .u8 a2_1] 45 (0, 0)) (by (with_reducible repeat (first | refine bN ?_ _ | refine bD ?_ | refine bA ?_ _)); exact BK101.out) hb)
       replace HB := am (below_step (by repeat (first | (with_reducible first | exact HB.out | apply lA | apply lN | apply lD | refine lS ?_ GE101.out) | exact HB.out)) hb)
       clear hb ho22
       refine hK.out _ _ ⟨(blk_cell BK101.out 0).trans rfl, (blk_cell BK101.out 1).trans rfl⟩ (fun hHeld => ?_)
       clear hK K
       refine norm_ (a' := ?_) ?_ ?_
       rotate_left
       ·show Act.put _ (some 40) _ = _
        simp only [Act.put, sA, sZ, sS, i64_w, i32_w]
        rfl
       exact norm_ (by simp only [putAll, Act.put, List.setIfInBounds_toArray, List.set_cons_zero, List.set_cons_succ]) (hCont (v108, v111, v114) _ ⟨hHeld, (by (with_reducible repeat (first | apply Ra | apply Rn | apply Rd)); exact Kd.R_mono HO106.out (fun _ hk => ⟨hk.1.2, hk.2⟩)), (by (with_reducible repeat (first | apply Ra | apply Rn | apply Rd)); exact HO112.out), (by (with_reducible repeat (first | apply Ra | apply Rn | apply Rd)); exact Kd.R_mono HO115.out (fun _ hk => ⟨hk.1.2, hk.2⟩)), (by (with_reducible repeat (first | refine bN ?_ _ | refine bD ?_ | refine bA ?_ _)); exact BK101.out), (by repeat (first | (with_reducible first | exact HB.out | apply lA | apply lN | apply lD | refine lS ?_ GE101.out) | exact HB.out))⟩)
      ·skip
       refine Kd.R_lit_step k27 _ 27 ?hg (N := 40) ?hd (xs := ([(⟨Int.tmod (wrap64 (a2_0)) t103, Int.tmod (wrap64 (a2_1)) t103⟩ : IPair)] : List (IPair))) (inner := [.int .i64 (Int.tmod (wrap64 (a2_0)) t103), .int .i64 (Int.tmod (wrap64 (a2_1)) t103)]) (ok := fun _ => True) (okp := fun _ => True) ?hr ?hp (fun _ hk => hk) trivial (Below.refl _ _) (Nat.le_refl _) (by simp) ?_; (case hd => rfl); (case hg => rfl); (case hr => first | (go_simp; done) | (go_simp; rfl)); (case hp => exact (Reps.c2 (show Kd.M k27 _ _ _ (⟨Int.tmod (wrap64 (a2_0)) t103, Int.tmod (wrap64 (a2_1)) t103⟩ : IPair) [.int .i64 (Int.tmod (wrap64 (a2_0)) t103), .int .i64 (Int.tmod (wrap64 (a2_1)) t103)] from (k27_mkM _ _ _ (⟨Int.tmod (wrap64 (a2_0)) t103, Int.tmod (wrap64 (a2_1)) t103⟩ : IPair) )) (Reps.none _ _)))
       intro v114 w20 ho21 hb hg_ hnew_
       clear hg_ hnew_
       (first | rw [← Ny113.out] at ho21 | (simp only [Int.reduceToNat] at ho21; rw [← Ny113.out] at ho21))
       have HO115 := am (Kd.R_lower (Kd.R_new' (Kd.R_new' ho21 (Kd.R_lt (by (with_reducible repeat (first | apply Ra | apply Rn | apply Rd)); exact HO106.out))) (Kd.R_lt (by (with_reducible repeat (first | apply Ra | apply Rn | apply Rd)); exact HO109.out))) (below_size (by repeat (first | (with_reducible first | exact HB.out | apply lA | apply lN | apply lD | refine lS ?_ GE101.out) | exact HB.out))))
       replace HO106 := am (Kd.R_elder' (by (with_reducible repeat (first | apply Ra | apply Rn | apply Rd)); exact HO106.out) (Kd.R_base ho21) hb)
       replace HO109 := am (Kd.R_elder' (by (with_reducible repeat (first | apply Ra | apply Rn | apply Rd)); exact HO109.out) (Kd.R_base ho21) hb)
       replace BK101 := am (blk_below (g := gb101) (o := .cells #[.int .u8 a2_0, .int .u8 a2_1] 45 (0, 0)) (by (with_reducible repeat (first | refine bN ?_ _ | refine bD ?_ | refine bA ?_ _)); exact BK101.out) hb)
       replace HB := am (below_step (by repeat (first | (with_reducible first | exact HB.out | apply lA | apply lN | apply lD | refine lS ?_ GE101.out) | exact HB.out)) hb)
       clear hb ho21
       refine hK.out _ _ ⟨(blk_cell BK101.out 0).trans rfl, (blk_cell BK101.out 1).trans rfl⟩ (fun hHeld => ?_)
       clear hK K
       refine norm_ (a' := ?_) ?_ ?_
       rotate_left
       ·show Act.put _ (some 40) _ = _
        simp only [Act.put, sA, sZ, sS, i64_w, i32_w]
        rfl
       refine one_ (i := 2) (N := some 28) (bl 17 32767) rfl rfl (one_of HT_.out (by kernel_rfl)) (by decide) (fun K hK => ?_)
       refine Kd.R_append_rows_step k27 (w0 := w) w.heap.size (by rfl) (.tmp 26) (.tmp 27) 24 27 (.agg #[(.int .i64 0), (.int .i64 0)]) 16 rfl Try.underlying24 info27 rfl (by decide) (by omega) v108 y107 t104 _ _ _ (fun k_ => some k_ ≠ (.slice Ao16 t104.length co16 : Value).ownBlock ∧ some k_ ≠ (v114 : Value).ownBlock) (fun _ => False) rfl rfl ?aO ?aR (fun _ _ h => h) (fun _ h => h.elim) ?aF ?aB ?aS ?aL ?_
       (case aR => repeat (first | exact (Kd.R_reads' HO106.out).2.2 | (with_reducible refine Kd.C_alloc ?_ _) | (with_reducible refine Kd.C_drewN ?_ _) | (with_reducible refine Kd.C_drew ?_)))
       (case aB => exact (by repeat (first | (with_reducible first | exact HB.out | apply lA | apply lN | apply lD | refine lS ?_ GE101.out) | exact HB.out)))
       (case aF => exact (fun k_ hk => ⟨Kd.fresh' (Kd.R_lt (by (with_reducible repeat (first | apply Ra | apply Rn | apply Rd)); exact HO106.out)) k_ hk, Kd.fresh' (Kd.R_lt (by (with_reducible repeat (first | apply Ra | apply Rn | apply Rd)); exact HO115.out)) k_ hk⟩))
       (case aO => exact (by (with_reducible repeat (first | apply Ra | apply Rn | apply Rd)); exact Kd.R_mono HO109.out (fun _ hk => ⟨hk.1.2, hk.2⟩)))
       (case aS => exact (below_size (by repeat (first | (with_reducible first | exact HB.out | apply lA | apply lN | apply lD | refine lS ?_ GE101.out) | exact HB.out))))
       (case aL => have := LMc7.out; omega)
       intro v111 w22 ho hb hg hat
       rw [← Ny110.out] at ho
       replace BK101 := am (blk_grown (g := gb101) (o := .cells #[.int .u8 a2_0, .int .u8 a2_1] 45 (0, 0)) (by (with_reducible repeat (first | refine bN ?_ _ | refine bD ?_ | refine bA ?_ _)); exact BK101.out) hg (Kd.R_ne HO109.out BK101.out (by decide)))
       replace HO106 := am (Kd.R_after (ok := (fun k_ => some k_ ≠ (v114 : Value).ownBlock)) (by (with_reducible repeat (first | apply Ra | apply Rn | apply Rd)); exact Kd.R_mono HO106.out (fun _ hk => ⟨hk.2, hk.1.2⟩)) hg hat)
       replace HO115 := am (Kd.R_after (ok := (fun k_ => some k_ ≠ (.slice Ao16 t104.length co16 : Value).ownBlock)) (by (with_reducible repeat (first | apply Ra | apply Rn | apply Rd)); exact Kd.R_mono HO115.out (fun _ hk => ⟨hk.1.2, hk.2⟩)) hg hat)
       replace HB := am (hb)
       have HO112 := am (ho)
       clear HO109
       clear ho hb hg hat
       refine hK.out _ _ ⟨(blk_cell BK101.out 0).trans rfl, (blk_cell BK101.out 1).trans rfl⟩ (fun hHeld => ?_)
       clear hK K
       refine norm_ (a' := ?_) ?_ ?_
       rotate_left
       ·show Act.put _ (some 28) _ = _
        simp only [Act.put, sA, sZ, sS, i64_w, i32_w]
        rfl
       exact norm_ (by simp only [putAll, Act.put, List.setIfInBounds_toArray, List.set_cons_zero, List.set_cons_succ]) (hCont (v108, v111, v114) _ ⟨hHeld, (by (with_reducible repeat (first | apply Ra | apply Rn | apply Rd)); exact Kd.R_mono HO106.out (fun _ hk => ⟨hk.2, hk.1⟩)), (by (with_reducible repeat (first | apply Ra | apply Rn | apply Rd)); exact HO112.out), (by (with_reducible repeat (first | apply Ra | apply Rn | apply Rd)); exact HO115.out), (by (with_reducible repeat (first | refine bN ?_ _ | refine bD ?_ | refine bA ?_ _)); exact BK101.out), (by repeat (first | (with_reducible first | exact HB.out | apply lA | apply lN | apply lD | refine lS ?_ GE101.out) | exact HB.out))⟩)
     ·skip
      refine Kd.R_lit_step k27 _ 27 ?hg (N := 40) ?hd (xs := ([(⟨Int.tmod (wrap64 (a2_0)) t103, Int.tmod (wrap64 (a2_1)) t103⟩ : IPair)] : List (IPair))) (inner := [.int .i64 (Int.tmod (wrap64 (a2_0)) t103), .int .i64 (Int.tmod (wrap64 (a2_1)) t103)]) (ok := fun _ => True) (okp := fun _ => True) ?hr ?hp (fun _ hk => hk) trivial (Below.refl _ _) (Nat.le_refl _) (by simp) ?_; (case hd => rfl); (case hg => rfl); (case hr => first | (go_simp; done) | (go_simp; rfl)); (case hp => exact (Reps.c2 (show Kd.M k27 _ _ _ (⟨Int.tmod (wrap64 (a2_0)) t103, Int.tmod (wrap64 (a2_1)) t103⟩ : IPair) [.int .i64 (Int.tmod (wrap64 (a2_0)) t103), .int .i64 (Int.tmod (wrap64 (a2_1)) t103)] from (k27_mkM _ _ _ (⟨Int.tmod (wrap64 (a2_0)) t103, Int.tmod (wrap64 (a2_1)) t103⟩ : IPair) )) (Reps.none _ _)))
      intro v114 w18 ho19 hb hg_ hnew_
      clear hg_ hnew_
      (first | rw [← Ny113.out] at ho19 | (simp only [Int.reduceToNat] at ho19; rw [← Ny113.out] at ho19))
      have HO115 := am (Kd.R_lower (Kd.R_new' ho19 (Kd.R_lt (by (with_reducible repeat (first | apply Ra | apply Rn | apply Rd)); exact HO106.out))) (below_size (by repeat (first | (with_reducible first | exact HB.out | apply lA | apply lN | apply lD | refine lS ?_ GE101.out) | exact HB.out))))
      replace HO106 := am (Kd.R_elder' (by (with_reducible repeat (first | apply Ra | apply Rn | apply Rd)); exact HO106.out) (Kd.R_base ho19) hb)
      replace BK101 := am (blk_below (g := gb101) (o := .cells #[.int .u8 a2_0, .int .u8 a2_1] 45 (0, 0)) (by (with_reducible repeat (first | refine bN ?_ _ | refine bD ?_ | refine bA ?_ _)); exact BK101.out) hb)
      replace HB := am (below_step (by repeat (first | (with_reducible first | exact HB.out | apply lA | apply lN | apply lD | refine lS ?_ GE101.out) | exact HB.out)) hb)
      clear hb ho19
      refine hK.out _ _ ⟨(blk_cell BK101.out 0).trans rfl, (blk_cell BK101.out 1).trans rfl⟩ (fun hHeld => ?_)
      clear hK K
      refine norm_ (a' := ?_) ?_ ?_
      rotate_left
      ·show Act.put _ (some 40) _ = _
       simp only [Act.put, sA, sZ, sS, i64_w, i32_w]
       rfl
      refine one_ (i := 0) (N := some 26) (bl 17 32763) rfl rfl (one_of HT_.out (by kernel_rfl)) (by decide) (fun K hK => ?_)
      refine Kd.R_lit_step k27 _ 27 ?hg (N := 26) ?hd (xs := ([] : List (IPair))) (inner := []) (ok := fun _ => True) (okp := fun _ => True) ?hr ?hp (fun _ hk => hk) trivial (Below.refl _ _) (Nat.le_refl _) (by simp) ?_; (case hd => rfl); (case hg => rfl); (case hr => first | (go_simp; done) | (go_simp; rfl)); (case hp => exact (Reps.none _ _))
      intro v108 w20 ho21 hb hg_ hnew_
      clear hg_ hnew_
      (first | rw [← Ny107.out] at ho21 | (simp only [Int.reduceToNat] at ho21; rw [← Ny107.out] at ho21))
      have HO109 := am (Kd.R_lower (Kd.R_new' (Kd.R_new' ho21 (Kd.R_lt (by (with_reducible repeat (first | apply Ra | apply Rn | apply Rd)); exact HO106.out))) (Kd.R_lt (by (with_reducible repeat (first | apply Ra | apply Rn | apply Rd)); exact HO115.out))) (below_size (by repeat (first | (with_reducible first | exact HB.out | apply lA | apply lN | apply lD | refine lS ?_ GE101.out) | exact HB.out))))
      replace HO106 := am (Kd.R_elder' (by (with_reducible repeat (first | apply Ra | apply Rn | apply Rd)); exact HO106.out) (Kd.R_base ho21) hb)
      replace HO115 := am (Kd.R_elder' (by (with_reducible repeat (first | apply Ra | apply Rn | apply Rd)); exact HO115.out) (Kd.R_base ho21) hb)
      replace BK101 := am (blk_below (g := gb101) (o := .cells #[.int .u8 a2_0, .int .u8 a2_1] 45 (0, 0)) (by (with_reducible repeat (first | refine bN ?_ _ | refine bD ?_ | refine bA ?_ _)); exact BK101.out) hb)
      replace HB := am (below_step (by repeat (first | (with_reducible first | exact HB.out | apply lA | apply lN | apply lD | refine lS ?_ GE101.out) | exact HB.out)) hb)
      clear hb ho21
      refine hK.out _ _ ⟨(blk_cell BK101.out 0).trans rfl, (blk_cell BK101.out 1).trans rfl⟩ (fun hHeld => ?_)
      clear hK K
      refine norm_ (a' := ?_) ?_ ?_
      rotate_left
      ·show Act.put _ (some 26) _ = _
       simp only [Act.put, sA, sZ, sS, i64_w, i32_w]
       rfl
      refine one_ (i := 2) (N := some 28) (bl 17 32767) rfl rfl (one_of HT_.out (by kernel_rfl)) (by decide) (fun K hK => ?_)
      refine Kd.R_append_rows_step k27 (w0 := w) w.heap.size (by rfl) (.tmp 26) (.tmp 27) 24 27 (.agg #[(.int .i64 0), (.int .i64 0)]) 16 rfl Try.underlying24 info27 rfl (by decide) (by omega) v108 y107 t104 _ _ _ (fun k_ => some k_ ≠ (.slice Ao16 t104.length co16 : Value).ownBlock ∧ some k_ ≠ (v114 : Value).ownBlock) (fun _ => False) rfl rfl ?aO ?aR (fun _ _ h => h) (fun _ h => h.elim) ?aF ?aB ?aS ?aL ?_
      (case aR => repeat (first | exact (Kd.R_reads' HO106.out).2.2 | (with_reducible refine Kd.C_alloc ?_ _) | (with_reducible refine Kd.C_drewN ?_ _) | (with_reducible refine Kd.C_drew ?_)))
      (case aB => exact (by repeat (first | (with_reducible first | exact HB.out | apply lA | apply lN | apply lD | refine lS ?_ GE101.out) | exact HB.out)))
      (case aF => exact (fun k_ hk => ⟨Kd.fresh' (Kd.R_lt (by (with_reducible repeat (first | apply Ra | apply Rn | apply Rd)); exact HO106.out)) k_ hk, Kd.fresh' (Kd.R_lt (by (with_reducible repeat (first | apply Ra | apply Rn | apply Rd)); exact HO115.out)) k_ hk⟩))
      (case aO => exact (by (with_reducible repeat (first | apply Ra | apply Rn | apply Rd)); exact Kd.R_mono HO109.out (fun _ hk => ⟨hk.1.2, hk.2⟩)))
      (case aS => exact (below_size (by repeat (first | (with_reducible first | exact HB.out | apply lA | apply lN | apply lD | refine lS ?_ GE101.out) | exact HB.out))))
      (case aL => have := LMc7.out; omega)
      intro v111 w22 ho hb hg hat
      rw [← Ny110.out] at ho
      replace BK101 := am (blk_grown (g := gb101) (o := .cells #[.int .u8 a2_0, .int .u8 a2_1] 45 (0, 0)) (by (with_reducible repeat (first | refine bN ?_ _ | refine bD ?_ | refine bA ?_ _)); exact BK101.out) hg (Kd.R_ne HO109.out BK101.out (by decide)))
      replace HO106 := am (Kd.R_after (ok := (fun k_ => some k_ ≠ (v114 : Value).ownBlock)) (by (with_reducible repeat (first | apply Ra | apply Rn | apply Rd)); exact Kd.R_mono HO106.out (fun _ hk => ⟨hk.1.2, hk.2⟩)) hg hat)
      replace HO115 := am (Kd.R_after (ok := (fun k_ => some k_ ≠ (.slice Ao16 t104.length co16 : Value).ownBlock)) (by (with_reducible repeat (first | apply Ra | apply Rn | apply Rd)); exact Kd.R_mono HO115.out (fun _ hk => ⟨hk.1.2, hk.2⟩)) hg hat)
      replace HB := am (hb)
      have HO112 := am (ho)
      clear HO109
      clear ho hb hg hat
      refine hK.out _ _ ⟨(blk_cell BK101.out 0).trans rfl, (blk_cell BK101.out 1).trans rfl⟩ (fun hHeld => ?_)
      clear hK K
      refine norm_ (a' := ?_) ?_ ?_
      rotate_left
      ·show Act.put _ (some 28) _ = _
       simp only [Act.put, sA, sZ, sS, i64_w, i32_w]
       rfl
      exact norm_ (by simp only [putAll, Act.put, List.setIfInBounds_toArray, List.set_cons_zero, List.set_cons_succ]) (hCont (v108, v111, v114) _ ⟨hHeld, (by (with_reducible repeat (first | apply Ra | apply Rn | apply Rd)); exact Kd.R_mono HO106.out (fun _ hk => ⟨hk.2, hk.1⟩)), (by (with_reducible repeat (first | apply Ra | apply Rn | apply Rd)); exact HO112.out), (by (with_reducible repeat (first | apply Ra | apply Rn | apply Rd)); exact HO115.out), (by (with_reducible repeat (first | refine bN ?_ _ | refine bD ?_ | refine bA ?_ _)); exact BK101.out), (by repeat (first | (with_reducible first | exact HB.out | apply lA | apply lN | apply lD | refine lS ?_ GE101.out) | exact HB.out))⟩)
    rintro ⟨v108, v111, v114⟩ w23 ⟨hS_, h0_, h1_, h2_, h3_, h4_⟩
    replace HO106 : Aside0 (Kd.R k27 27 w23 w.heap.size (fun k_ => some k_ ≠ (v111 : Value).ownBlock ∧ some k_ ≠ (v114 : Value).ownBlock) (.slice Ao16 t104.length co16) t104) := ⟨h0_⟩
    have HO112 : Aside0 (Kd.R k27 27 w23 w.heap.size (fun k_ => some k_ ≠ (.slice Ao16 t104.length co16 : Value).ownBlock ∧ some k_ ≠ (v114 : Value).ownBlock) v111 y110) := ⟨h1_⟩
    have HO115 : Aside0 (Kd.R k27 27 w23 w.heap.size (fun k_ => some k_ ≠ (.slice Ao16 t104.length co16 : Value).ownBlock ∧ some k_ ≠ (v111 : Value).ownBlock) v114 y113) := ⟨h2_⟩
    replace BK101 : Aside0 (w23.heap[gb101]? = some (.cells #[.int .u8 a2_0, .int .u8 a2_1] 45 (0, 0))) := ⟨h3_⟩
    replace HB : Aside0 (Below w.heap.size w w23) := ⟨h4_⟩
    clear h0_ h1_ h2_ h3_ h4_
    have hHeld : w23.cell? ⟨gb101, 0, none⟩ = some (.int .u8 a2_0) ∧ w23.cell? ⟨gb101, 1, none⟩ = some (.int .u8 a2_1) := hS_
    obtain ⟨Ao25, co25, eo25⟩ := Kd.R_slice HO115.out
    (first | subst eo25 | (injection eo25 with f1_ f2_ f3_; have f4_ := f1_.symm; have f5_ := f3_.symm; clear f1_ f2_ f3_; subst f4_; subst f5_))
    refine norm_ (a' := ?_) ?_ ?_
    rotate_left
    ·simp only [putAll, Act.put, List.setIfInBounds_toArray, List.set_cons_zero, List.set_cons_succ]
     rfl
    refine one_ (i := 15) (N := some 41) (bl 17 65535) rfl rfl (one_of HT_.out (by kernel_rfl)) (by decide) (fun K hK => ?_)
    refine Kd.R_append_rows_step k27 (w0 := w) w.heap.size (by rfl) (.tmp 28) (.tmp 40) 24 27 (.agg #[(.int .i64 0), (.int .i64 0)]) 16 rfl Try.underlying24 info27 rfl (by decide) (by omega) v111 y110 y113 _ _ _ (fun k_ => some k_ ≠ (.slice Ao16 t104.length co16 : Value).ownBlock ∧ some k_ ≠ (.slice Ao25 y113.length co25 : Value).ownBlock) (fun _ => False) rfl rfl ?aO ?aR (fun _ _ h => h) (fun _ h => h.elim) ?aF ?aB ?aS ?aL ?_
    (case aR => repeat (first | exact (Kd.R_reads' HO115.out).2.2 | (with_reducible refine Kd.C_alloc ?_ _) | (with_reducible refine Kd.C_drewN ?_ _) | (with_reducible refine Kd.C_drew ?_)))
    (case aB => exact (by repeat (first | (with_reducible first | exact HB.out | apply lA | apply lN | apply lD | refine lS ?_ GE101.out) | exact HB.out)))
    (case aF => exact (fun k_ hk => ⟨Kd.fresh' (Kd.R_lt (by (with_reducible repeat (first | apply Ra | apply Rn | apply Rd)); exact HO106.out)) k_ hk, Kd.fresh' (Kd.R_lt (by (with_reducible repeat (first | apply Ra | apply Rn | apply Rd)); exact HO115.out)) k_ hk⟩))
    (case aO => exact (by (with_reducible repeat (first | apply Ra | apply Rn | apply Rd)); exact HO112.out))
    (case aS => exact (below_size (by repeat (first | (with_reducible first | exact HB.out | apply lA | apply lN | apply lD | refine lS ?_ GE101.out) | exact HB.out))))
    (case aL => have := LMc9.out; omega)
    intro v117 w24 ho hb hg hat
    rw [← Ny116.out] at ho
    replace BK101 := am (blk_grown (g := gb101) (o := .cells #[.int .u8 a2_0, .int .u8 a2_1] 45 (0, 0)) (by (with_reducible repeat (first | refine bN ?_ _ | refine bD ?_ | refine bA ?_ _)); exact BK101.out) hg (Kd.R_ne HO112.out BK101.out (by decide)))
    replace HO106 := am (Kd.R_after (ok := (fun k_ => some k_ ≠ (.slice Ao25 y113.length co25 : Value).ownBlock)) (by (with_reducible repeat (first | apply Ra | apply Rn | apply Rd)); exact Kd.R_mono HO106.out (fun _ hk => ⟨hk.2, hk.1⟩)) hg hat)
    replace HO115 := am (Kd.R_after (ok := (fun k_ => some k_ ≠ (.slice Ao16 t104.length co16 : Value).ownBlock)) (by (with_reducible repeat (first | apply Ra | apply Rn | apply Rd)); exact HO115.out) hg hat)
    replace HB := am (hb)
    have HO118 := am (ho)
    clear HO112
    clear ho hb hg hat
    refine hK.out _ _ ⟨(blk_cell BK101.out 0).trans rfl, (blk_cell BK101.out 1).trans rfl⟩ (fun hHeld => ?_)
    clear hK K
    refine norm_ (a' := ?_) ?_ ?_
    rotate_left
    ·show Act.put _ (some 41) _ = _
     simp only [Act.put, sA, sZ, sS, i64_w, i32_w]
     rfl
    refine pure_ (i := 16) (N := some 12) (v := ?_) (a' := ?_) (bl 17 131071) rfl rfl (any_of HT_.out (by kernel_rfl)) (fun _ _ _ h => h) (Or.inl ⟨by rfl, ?_⟩) ?_ ?_
    rotate_left
    ·intro w'
     go_simp
     with_reducible rfl
    rotate_left
    ·simp only [Act.put, sA, sZ, sS, i64_w, i32_w]
     rfl
    refine done_ (done_of HT_.out (by kernel_rfl)) ?_
    go_upto_region 7 with (first | ((with_reducible refine gate_callee (f := 22) rfl ?_); refine goesL_ (some 49) rfl rfl Try.func22 (by kernel_rfl) rfl #[.int .i64 t103, .slice Ao16 t104.length co16, .int .i64 (Int.tmod (wrap64 (a3)) t103)] rfl (by (try simp only [List.map_toArray, List.map_cons, List.map_nil]); first | done | rfl | (simp only [List.length_drop, List.length_take]; rfl)) ?_; (with_reducible refine (graph_Reach.calls k t103 _ _ t104 (Int.tmod (wrap64 (a3)) t103) t119 _ ?side1 ?side2 A10.out).mono ?_); (case side1 => repeat (first | exact (Kd.R_reads' HO106.out).2.2 | (with_reducible refine Kd.C_alloc ?_ _) | (with_reducible refine Kd.C_drewN ?_ _) | (with_reducible refine Kd.C_drew ?_))); (case side2 => exact (Kd.R_reads' HO106.out).2.1); rintro e w26 ⟨v120, rfl, ho0, hb⟩; refine ⟨_, rfl, ?_⟩; replace HO106 := am (Kd.R_below (by (with_reducible repeat (first | apply Ra | apply Rn | apply Rd)); exact HO106.out) hb); replace HO115 := am (Kd.R_below (by (with_reducible repeat (first | apply Ra | apply Rn | apply Rd)); exact HO115.out) hb); replace HO118 := am (Kd.R_below (by (with_reducible repeat (first | apply Ra | apply Rn | apply Rd)); exact HO118.out) hb); have HO121 := am (Kd.R_lower ho0 (below_size (by repeat (first | (with_reducible first | exact HB.out | apply lA | apply lN | apply lD | refine lS ?_ GE101.out) | exact HB.out)))); replace BK101 := am (blk_below (g := gb101) (o := .cells #[.int .u8 a2_0, .int .u8 a2_1] 45 (0, 0)) (by (with_reducible repeat (first | refine bN ?_ _ | refine bD ?_ | refine bA ?_ _)); exact BK101.out) hb); replace HB := am (below_step (by repeat (first | (with_reducible first | exact HB.out | apply lA | apply lN | apply lD | refine lS ?_ GE101.out) | exact HB.out)) hb); (try clear hb); (try clear hb2); (try clear hk); (try clear hi); (try clear ho0); obtain ⟨Ao27, co27, eo27⟩ := Kd.R_slice HO118.out; subst eo27) | ((with_reducible refine gate_callee (f := 22) rfl ?_); refine goesL_ (some 53) rfl rfl Try.func22 (by kernel_rfl) rfl #[.int .i64 t103, .slice Ao27 y116.length co27, .int .i64 (Int.tmod (wrap64 (a3)) t103)] rfl (by (try simp only [List.map_toArray, List.map_cons, List.map_nil]); first | done | rfl | (simp only [List.length_drop, List.length_take]; rfl)) ?_; (with_reducible refine (graph_Reach.calls k t103 _ _ y116 (Int.tmod (wrap64 (a3)) t103) t122 _ ?side1 ?side2 A11.out).mono ?_); (case side1 => repeat (first | exact (Kd.R_reads' HO118.out).2.2 | (with_reducible refine Kd.C_alloc ?_ _) | (with_reducible refine Kd.C_drewN ?_ _) | (with_reducible refine Kd.C_drew ?_))); (case side2 => exact (Kd.R_reads' HO118.out).2.1); rintro e w28 ⟨v123, rfl, ho0, hb⟩; refine ⟨_, rfl, ?_⟩; replace HO106 := am (Kd.R_below (by (with_reducible repeat (first | apply Ra | apply Rn | apply Rd)); exact HO106.out) hb); replace HO115 := am (Kd.R_below (by (with_reducible repeat (first | apply Ra | apply Rn | apply Rd)); exact HO115.out) hb); replace HO118 := am (Kd.R_below (by (with_reducible repeat (first | apply Ra | apply Rn | apply Rd)); exact HO118.out) hb); have HO124 := am (Kd.R_lower (Kd.R_new' ho0 (Kd.R_lt (by (with_reducible repeat (first | apply Ra | apply Rn | apply Rd)); exact HO121.out))) (below_size (by repeat (first | (with_reducible first | exact HB.out | apply lA | apply lN | apply lD | refine lS ?_ GE101.out) | exact HB.out)))); replace HO121 := am (Kd.R_elder' (by (with_reducible repeat (first | apply Ra | apply Rn | apply Rd)); exact HO121.out) (Kd.R_base ho0) hb); replace BK101 := am (blk_below (g := gb101) (o := .cells #[.int .u8 a2_0, .int .u8 a2_1] 45 (0, 0)) (by (with_reducible repeat (first | refine bN ?_ _ | refine bD ?_ | refine bA ?_ _)); exact BK101.out) hb); replace HB := am (below_step (by repeat (first | (with_reducible first | exact HB.out | apply lA | apply lN | apply lD | refine lS ?_ GE101.out) | exact HB.out)) hb); (try clear hb); (try clear hb2); (try clear hk); (try clear hi); (try clear ho0)))
    (try simp only [Act.put, List.setIfInBounds_toArray, List.set_cons_zero, List.set_cons_succ])
    go_cut [70] (fun v70 wc => ∃ (kq : Nat) (x70_11 : Bool), v70 = .bool x70_11 ∧ Aside0 (lambrequinlaw10_GraphMore.j0 kq t102 t103 t104 y116 t119 t122 x70_11 = some r) ∧ Aside0 (kq ≤ k) ∧ Aside0 (Kd.R k27 27 wc w.heap.size (fun k_ => some k_ ≠ ((.slice Ao27 y116.length co27) : Value).ownBlock) (.slice Ao16 t104.length co16) t104) ∧ Aside0 (Kd.R k27 27 wc w.heap.size (fun k_ => some k_ ≠ ((.slice Ao16 t104.length co16) : Value).ownBlock) (.slice Ao27 y116.length co27) y116) ∧ Aside0 (Kd.R Kd.bool 4 wc w.heap.size (fun k_ => some k_ ≠ (v123 : Value).ownBlock) v120 t119) ∧ Aside0 (Kd.R Kd.bool 4 wc w.heap.size (fun k_ => some k_ ≠ (v120 : Value).ownBlock) v123 t122) ∧ Aside0 (wc.heap[gb101]? = some (.cells #[.int .u8 a2_0, .int .u8 a2_1] 45 (0, 0))) ∧ Aside0 (Below w.heap.size w wc))
    case first =>
     have H := HC12.out
     clear HC12
     by_cases c29 : (t119.length : Int) = t103
     ·rw [if_pos c29] at H
      have c29b0 : ((t119.length : Int) == t103) = true := beq_iff_eq.mpr c29
      have c29b1 : ((t119.length : Int) != t103) = false := bne_eq_false_iff_eq.mpr c29
      clear c29
      (first | rw [c29b0] | (simp only [i64_w, i32_w]; rw [c29b0]) | skip)
      by_cases c30 : (t122.length : Int) = t103
      ·rw [if_pos c30] at H
       have c30b0 : ((t122.length : Int) == t103) = true := beq_iff_eq.mpr c30
       have c30b1 : ((t122.length : Int) != t103) = false := bne_eq_false_iff_eq.mpr c30
       clear c30
       obtain ⟨ji31, hji31⟩ : ∃ j_ : Int, (Int.tmod (wrap64 (a3)) t103) = j_ := ⟨_, rfl⟩
       replace H : (if 0 ≤ (ji31) then (if (ji31) < (t119.length : Int) then (lambrequinlaw10_GraphMore.j0 k t102 t103 t104 y116 t119 t122 (!(rdOf false t119 (ji31)))) else (none)) else (none)) = some r := by first | (rw [hji31] at H; exact H) | (simp only [hji31] at H ⊢; exact H)
       by_cases c32 : 0 ≤ (ji31)
       ·rw [if_pos c32] at H
        have c32b0 : decide (0 ≤ (ji31)) = true := decide_eq_true c32
        clear c32
        by_cases c33 : (ji31) < (t119.length : Int)
        ·rw [if_pos c33] at H
         have c33b0 : decide ((ji31) < (t119.length : Int)) = true := decide_eq_true c33
         clear c33
         have H' := am H
         clear H
         obtain ⟨Ao34, co34, eo34⟩ := Kd.R_slice HO121.out
         subst eo34
         obtain ⟨Ao35, co35, eo35⟩ := Kd.R_slice HO124.out
         subst eo35
         have p125 : 0 ≤ ((ji31) : Int) := of_decide_eq_true (by first | (with_reducible assumption) | assumption)
         have q125 : (ji31) < (t119.length : Int) := of_decide_eq_true (by first | (with_reducible assumption) | assumption)
         obtain ⟨ad125, e125, hx125_0⟩ := Kd.at_bool (Kd.R_reads' HO121.out).2.2 (ji31) p125 q125
         cases e125
         replace p125 := eq_true p125
         replace q125 := eq_true q125
         go_wp2
         go_meet
         case rel => exact ⟨_, (!(rdOf false t119 (ji31))), (by first | rfl | (simp; done) | (simp only [← hji31] <;> (first | rfl | simp)) | (simp [*]; done)), H', ⟨by first | omega | exact Nat.le_refl _⟩, ⟨by (with_reducible repeat (first | apply Ra | apply Rn | apply Rd)); exact Kd.R_mono HO106.out (fun _ hk => hk.2)⟩, ⟨by (with_reducible repeat (first | apply Ra | apply Rn | apply Rd)); exact Kd.R_mono HO118.out (fun _ hk => hk.1)⟩, ⟨by (with_reducible repeat (first | apply Ra | apply Rn | apply Rd)); exact Kd.R_mono HO121.out (fun _ hk => hk.2)⟩, ⟨by (with_reducible repeat (first | apply Ra | apply Rn | apply Rd)); exact Kd.R_mono HO124.out (fun _ hk => hk.2)⟩, ⟨by (with_reducible repeat (first | refine bN ?_ _ | refine bD ?_ | refine bA ?_ _)); exact BK101.out⟩, ⟨by repeat (first | (with_reducible first | exact HB.out | apply lA | apply lN | apply lD | refine lS ?_ GE101.out) | exact HB.out)⟩⟩
        ·rw [if_neg c33] at H
         exact absurd H (by simp)
       ·rw [if_neg c32] at H
        exact absurd H (by simp)
      ·rw [if_neg c30] at H
       have c30b0 : ((t122.length : Int) == t103) = false := beq_eq_false_iff_ne.mpr c30
       have c30b1 : ((t122.length : Int) != t103) = true := bne_iff_ne.mpr c30
       have H' := am H
       clear H
       obtain ⟨Ao36, co36, eo36⟩ := Kd.R_slice HO121.out
       subst eo36
       obtain ⟨Ao37, co37, eo37⟩ := Kd.R_slice HO124.out
       subst eo37
       go_wp2
       go_meet
       case rel => exact ⟨_, (true), (by first | rfl | (simp; done) | (simp [*]; done)), H', ⟨by first | omega | exact Nat.le_refl _⟩, ⟨by (with_reducible repeat (first | apply Ra | apply Rn | apply Rd)); exact Kd.R_mono HO106.out (fun _ hk => hk.2)⟩, ⟨by (with_reducible repeat (first | apply Ra | apply Rn | apply Rd)); exact Kd.R_mono HO118.out (fun _ hk => hk.1)⟩, ⟨by (with_reducible repeat (first | apply Ra | apply Rn | apply Rd)); exact Kd.R_mono HO121.out (fun _ hk => hk.2)⟩, ⟨by (with_reducible repeat (first | apply Ra | apply Rn | apply Rd)); exact Kd.R_mono HO124.out (fun _ hk => hk.2)⟩, ⟨by (with_reducible repeat (first | refine bN ?_ _ | refine bD ?_ | refine bA ?_ _)); exact BK101.out⟩, ⟨by repeat (first | (with_reducible first | exact HB.out | apply lA | apply lN | apply lD | refine lS ?_ GE101.out) | exact HB.out)⟩⟩
     ·rw [if_neg c29] at H
      have c29b0 : ((t119.length : Int) == t103) = false := beq_eq_false_iff_ne.mpr c29
      have c29b1 : ((t119.length : Int) != t103) = true := bne_iff_ne.mpr c29
      (first | rw [c29b0] | (simp only [i64_w, i32_w]; rw [c29b0]) | skip)
      have H' := am H
      clear H
      obtain ⟨Ao38, co38, eo38⟩ := Kd.R_slice HO121.out
      subst eo38
      go_wp2
      go_meet
      case rel => exact ⟨_, (true), (by first | rfl | (simp; done) | (simp [*]; done)), H', ⟨by first | omega | exact Nat.le_refl _⟩, ⟨by (with_reducible repeat (first | apply Ra | apply Rn | apply Rd)); exact Kd.R_mono HO106.out (fun _ hk => hk.2)⟩, ⟨by (with_reducible repeat (first | apply Ra | apply Rn | apply Rd)); exact Kd.R_mono HO118.out (fun _ hk => hk.1)⟩, ⟨by (with_reducible repeat (first | apply Ra | apply Rn | apply Rd)); exact Kd.R_mono HO121.out (fun _ hk => hk.2)⟩, ⟨by (with_reducible repeat (first | apply Ra | apply Rn | apply Rd)); exact Kd.R_mono HO124.out (fun _ hk => hk.2)⟩, ⟨by (with_reducible repeat (first | refine bN ?_ _ | refine bD ?_ | refine bA ?_ _)); exact BK101.out⟩, ⟨by repeat (first | (with_reducible first | exact HB.out | apply lA | apply lN | apply lD | refine lS ?_ GE101.out) | exact HB.out)⟩⟩
    case rest =>
     clear HC12
     try clear c1
     try clear p1
     try clear q1
     try clear hx1
     try clear c2
     try clear p2
     try clear c3
     try clear p6
     try clear c7
     try clear c8
     try clear c8b0
     try clear c8b1
     try clear c9
     try clear p12
     try clear q12
     try clear hx12
     try clear c14
     try clear c15
     try clear c22
     try clear c29
     try clear c29b0
     try clear c29b1
     try clear c30
     try clear c30b0
     try clear c30b1
     try clear c32
     try clear c32b0
     try clear c33
     try clear c33b0
     try clear hx125_0
     try clear p125
     try clear q125
     obtain ⟨kq, x70_11, rfl, HA, HJ11, HO_11, HO_12, HO_14, HO_15, BK101, HB⟩ := hcut
     cases kq with
     | zero => exact absurd HA.out (by simp [lambrequinlaw10_GraphMore.j0])
     | succ kj11 =>
      have H := HA.out
      clear HA
      simp only [lambrequinlaw10_GraphMore.j0] at H
      by_cases c39 : x70_11 = true
      ·subst c39
       have H1 : (some false) = some r := by rw [if_pos rfl] at H; exact H
       clear H
       have H := H1
       clear H1
       obtain rfl := Option.some.inj H
       go_wp2
       go_ret
       exact ⟨by first | rfl | (simp [errW_none, errW_some] <;> rfl) | (simp [*, errW_none, errW_some] <;> rfl), by repeat (first | (with_reducible first | exact HB.out | apply lA | apply lN | apply lD | refine lS ?_ GE101.out) | exact HB.out)⟩
      ·replace c39 := Bool.eq_false_iff.mpr c39
       subst c39
       have H1 : (lambrequinlaw10_GraphMore.l0 kj11 t102 t103 t104 y116 t119 t122 0) = some r := by rw [if_neg (show ¬ (false = true) by decide)] at H; exact H
       clear H
       have H := H1
       clear H1
       have H' := am H
       clear H
       go_wp2
       go_loopg [16] kj11 (fun kq v16 w' => ∃ (x16_2 : Int), v16 = .int .i64 x16_2 ∧ Aside0 (lambrequinlaw10_GraphMore.l0 kq t102 t103 t104 y116 t119 t122 x16_2 = some r) ∧ Aside0 (kq ≤ kj11) ∧ Aside0 (Kd.R k27 27 w' w.heap.size (fun k_ => some k_ ≠ ((.slice Ao27 y116.length co27) : Value).ownBlock) (.slice Ao16 t104.length co16) t104) ∧ Aside0 (Kd.R k27 27 w' w.heap.size (fun k_ => some k_ ≠ ((.slice Ao16 t104.length co16) : Value).ownBlock) (.slice Ao27 y116.length co27) y116) ∧ Aside0 (Kd.R Kd.bool 4 w' w.heap.size (fun k_ => some k_ ≠ (v123 : Value).ownBlock) v120 t119) ∧ Aside0 (Kd.R Kd.bool 4 w' w.heap.size (fun k_ => some k_ ≠ (v120 : Value).ownBlock) v123 t122) ∧ Aside0 (w'.heap[gb101]? = some (.cells #[.int .u8 a2_0, .int .u8 a2_1] 45 (0, 0))) ∧ Aside0 (Below w.heap.size w w'))
       case atStart => exact ⟨(0), (by first | rfl | (simp; done) | (simp [*]; done)), H', ⟨Nat.le_refl _⟩, ⟨by (with_reducible repeat (first | apply Ra | apply Rn | apply Rd)); exact HO_11.out⟩, ⟨by (with_reducible repeat (first | apply Ra | apply Rn | apply Rd)); exact HO_12.out⟩, ⟨by (with_reducible repeat (first | apply Ra | apply Rn | apply Rd)); exact HO_14.out⟩, ⟨by (with_reducible repeat (first | apply Ra | apply Rn | apply Rd)); exact HO_15.out⟩, ⟨by (with_reducible repeat (first | refine bN ?_ _ | refine bD ?_ | refine bA ?_ _)); exact BK101.out⟩, ⟨by repeat (first | (with_reducible first | exact HB.out | apply lA | apply lN | apply lD | refine lS ?_ GE101.out) | exact HB.out)⟩⟩
       case round =>
        clear H'
        try clear c1
        try clear p1
        try clear q1
        try clear hx1
        try clear c2
        try clear p2
        try clear c3
        try clear p6
        try clear c7
        try clear c8
        try clear c8b0
        try clear c8b1
        try clear c9
        try clear p12
        try clear q12
        try clear hx12
        try clear c14
        try clear c15
        try clear c22
        try clear c29
        try clear c29b0
        try clear c29b1
        try clear c30
        try clear c30b0
        try clear c30b1
        try clear c32
        try clear c32b0
        try clear c33
        try clear c33b0
        try clear c39
        try clear hx125_0
        try clear p1
        try clear p12
        try clear p125
        try clear p2
        try clear p6
        try clear q1
        try clear q12
        try clear q125
        obtain ⟨x16_2, rfl, HA, HK2, HO_11, HO_12, HO_14, HO_15, BK101, HB⟩ := hrel
        cases gk with
        | zero => exact absurd HA.out (by simp [lambrequinlaw10_GraphMore.l0])
        | succ k2 =>
         have H := HA.out
         clear HA
         simp only [lambrequinlaw10_GraphMore.l0] at H
         by_cases c40 : x16_2 < t103
         ·rw [if_pos c40] at H
          have c40b0 : decide (x16_2 < t103) = true := decide_eq_true c40
          clear c40
          by_cases c41 : 0 ≤ x16_2
          ·rw [if_pos c41] at H
           have c41b0 : decide (0 ≤ x16_2) = true := decide_eq_true c41
           clear c41
           by_cases c42 : x16_2 < (t119.length : Int)
           ·rw [if_pos c42] at H
            have c42b0 : decide (x16_2 < (t119.length : Int)) = true := decide_eq_true c42
            clear c42
            obtain ⟨bq43, hbq43⟩ : ∃ b_ : Bool, b_ = (rdOf false t119 x16_2) := ⟨_, rfl⟩
            replace H : (if bq43 = true then (if x16_2 < (t122.length : Int) then (if rdOf false t122 x16_2 = true then (lambrequinlaw10_GraphMore.l0 k2 t102 t103 t104 y116 t119 t122 (wrap64 (x16_2 + 1))) else (some false)) else (none)) else (lambrequinlaw10_GraphMore.l0 k2 t102 t103 t104 y116 t119 t122 (wrap64 (x16_2 + 1)))) = some r := by rw [← hbq43] at H; exact H
            have Nbq43 := am hbq43
            clear hbq43
            by_cases c44 : bq43 = true
            ·subst c44
             have H1 : (if x16_2 < (t122.length : Int) then (if rdOf false t122 x16_2 = true then (lambrequinlaw10_GraphMore.l0 k2 t102 t103 t104 y116 t119 t122 (wrap64 (x16_2 + 1))) else (some false)) else (none)) = some r := by rw [if_pos rfl] at H; exact H
             clear H
             have H := H1
             clear H1
             by_cases c45 : x16_2 < (t122.length : Int)
             ·rw [if_pos c45] at H
              have c45b0 : decide (x16_2 < (t122.length : Int)) = true := decide_eq_true c45
              clear c45
              obtain ⟨bq46, hbq46⟩ : ∃ b_ : Bool, b_ = (rdOf false t122 x16_2) := ⟨_, rfl⟩
              replace H : (if bq46 = true then (lambrequinlaw10_GraphMore.l0 k2 t102 t103 t104 y116 t119 t122 (wrap64 (x16_2 + 1))) else (some false)) = some r := by rw [← hbq46] at H; exact H
              have Nbq46 := am hbq46
              clear hbq46
              by_cases c47 : bq46 = true
              ·subst c47
               have H1 : (lambrequinlaw10_GraphMore.l0 k2 t102 t103 t104 y116 t119 t122 (wrap64 (x16_2 + 1))) = some r := by rw [if_pos rfl] at H; exact H
               clear H
               have H := H1
               clear H1
               have H' := am H
               clear H
               obtain ⟨Ao48, co48, eo48⟩ := Kd.R_slice HO_14.out
               subst eo48
               have p126 : 0 ≤ (x16_2 : Int) := of_decide_eq_true (by first | (with_reducible assumption) | assumption)
               have q126 : x16_2 < (t119.length : Int) := of_decide_eq_true (by first | (with_reducible assumption) | assumption)
               obtain ⟨ad126, e126, hx126_0⟩ := Kd.at_bool (Kd.R_reads' HO_14.out).2.2 x16_2 p126 q126
               (try rw [← Nbq43.out] at hx126_0)
               (try rw [← Nbq46.out] at hx126_0)
               cases e126
               replace p126 := eq_true p126
               replace q126 := eq_true q126
               obtain ⟨Ao49, co49, eo49⟩ := Kd.R_slice HO_15.out
               subst eo49
               have p127 : 0 ≤ (x16_2 : Int) := of_decide_eq_true (by first | (with_reducible assumption) | assumption)
               have q127 : x16_2 < (t122.length : Int) := of_decide_eq_true (by first | (with_reducible assumption) | assumption)
               obtain ⟨ad127, e127, hx127_0⟩ := Kd.at_bool (Kd.R_reads' HO_15.out).2.2 x16_2 p127 q127
               (try rw [← Nbq43.out] at hx127_0)
               (try rw [← Nbq46.out] at hx127_0)
               cases e127
               replace p127 := eq_true p127
               replace q127 := eq_true q127
               go_wp2
               go_roundg k2
               case measure => have := HJ11.out; have := HK2.out; omega
               case rel => exact ⟨(wrap64 (x16_2 + 1)), (by first | rfl | (simp; done) | (simp [*]; done)), H', ⟨by have := HJ11.out; have := HK2.out; omega⟩, ⟨by (with_reducible repeat (first | apply Ra | apply Rn | apply Rd)); exact HO_11.out⟩, ⟨by (with_reducible repeat (first | apply Ra | apply Rn | apply Rd)); exact HO_12.out⟩, ⟨by (with_reducible repeat (first | apply Ra | apply Rn | apply Rd)); exact HO_14.out⟩, ⟨by (with_reducible repeat (first | apply Ra | apply Rn | apply Rd)); exact HO_15.out⟩, ⟨by (with_reducible repeat (first | refine bN ?_ _ | refine bD ?_ | refine bA ?_ _)); exact BK101.out⟩, ⟨by repeat (first | (with_reducible first | exact HB.out | apply lA | apply lN | apply lD | refine lS ?_ GE101.out) | exact HB.out)⟩⟩
              ·replace c47 := Bool.eq_false_iff.mpr c47
               subst c47
               have H1 : (some false) = some r := by rw [if_neg (show ¬ (false = true) by decide)] at H; exact H
               clear H
               have H := H1
               clear H1
               obtain rfl := Option.some.inj H
               obtain ⟨Ao50, co50, eo50⟩ := Kd.R_slice HO_14.out
               subst eo50
               have p126 : 0 ≤ (x16_2 : Int) := of_decide_eq_true (by first | (with_reducible assumption) | assumption)
               have q126 : x16_2 < (t119.length : Int) := of_decide_eq_true (by first | (with_reducible assumption) | assumption)
               obtain ⟨ad126, e126, hx126_0⟩ := Kd.at_bool (Kd.R_reads' HO_14.out).2.2 x16_2 p126 q126
               (try rw [← Nbq43.out] at hx126_0)
               (try rw [← Nbq46.out] at hx126_0)
               cases e126
               replace p126 := eq_true p126
               replace q126 := eq_true q126
               obtain ⟨Ao51, co51, eo51⟩ := Kd.R_slice HO_15.out
               subst eo51
               have p127 : 0 ≤ (x16_2 : Int) := of_decide_eq_true (by first | (with_reducible assumption) | assumption)
               have q127 : x16_2 < (t122.length : Int) := of_decide_eq_true (by first | (with_reducible assumption) | assumption)
               obtain ⟨ad127, e127, hx127_0⟩ := Kd.at_bool (Kd.R_reads' HO_15.out).2.2 x16_2 p127 q127
               (try rw [← Nbq43.out] at hx127_0)
               (try rw [← Nbq46.out] at hx127_0)
               cases e127
               replace p127 := eq_true p127
               replace q127 := eq_true q127
               go_wp2
               go_ret
               exact ⟨by first | rfl | (simp [errW_none, errW_some] <;> rfl) | (simp [*, errW_none, errW_some] <;> rfl), by repeat (first | (with_reducible first | exact HB.out | apply lA | apply lN | apply lD | refine lS ?_ GE101.out) | exact HB.out)⟩
             ·rw [if_neg c45] at H
              exact absurd H (by simp)
            ·replace c44 := Bool.eq_false_iff.mpr c44
             subst c44
             have H1 : (lambrequinlaw10_GraphMore.l0 k2 t102 t103 t104 y116 t119 t122 (wrap64 (x16_2 + 1))) = some r := by rw [if_neg (show ¬ (false = true) by decide)] at H; exact H
             clear H
             have H := H1
             clear H1
             have H' := am H
             clear H
             obtain ⟨Ao52, co52, eo52⟩ := Kd.R_slice HO_14.out
             subst eo52
             have p126 : 0 ≤ (x16_2 : Int) := of_decide_eq_true (by first | (with_reducible assumption) | assumption)
             have q126 : x16_2 < (t119.length : Int) := of_decide_eq_true (by first | (with_reducible assumption) | assumption)
             obtain ⟨ad126, e126, hx126_0⟩ := Kd.at_bool (Kd.R_reads' HO_14.out).2.2 x16_2 p126 q126
             (try rw [← Nbq43.out] at hx126_0)
             cases e126
             replace p126 := eq_true p126
             replace q126 := eq_true q126
             go_wp2
             go_roundg k2
             case measure => have := HJ11.out; have := HK2.out; omega
             case rel => exact ⟨(wrap64 (x16_2 + 1)), (by first | rfl | (simp; done) | (simp [*]; done)), H', ⟨by have := HJ11.out; have := HK2.out; omega⟩, ⟨by (with_reducible repeat (first | apply Ra | apply Rn | apply Rd)); exact HO_11.out⟩, ⟨by (with_reducible repeat (first | apply Ra | apply Rn | apply Rd)); exact HO_12.out⟩, ⟨by (with_reducible repeat (first | apply Ra | apply Rn | apply Rd)); exact HO_14.out⟩, ⟨by (with_reducible repeat (first | apply Ra | apply Rn | apply Rd)); exact HO_15.out⟩, ⟨by (with_reducible repeat (first | refine bN ?_ _ | refine bD ?_ | refine bA ?_ _)); exact BK101.out⟩, ⟨by repeat (first | (with_reducible first | exact HB.out | apply lA | apply lN | apply lD | refine lS ?_ GE101.out) | exact HB.out)⟩⟩
           ·rw [if_neg c42] at H
            exact absurd H (by simp)
          ·rw [if_neg c41] at H
           exact absurd H (by simp)
         ·rw [if_neg c40] at H
          have c40b0 : decide (x16_2 < t103) = false := decide_eq_false c40
          clear c40
          replace H := Option.bind_eq_some_iff.mp H
          obtain ⟨t128, A530, H⟩ := H
          replace H : (if (t128.length : Int) = t103 then (lambrequinlaw10_GraphMore.l1 k2 t102 t103 t104 y116 t128 0) else (some false)) = some r := H
          have A53 := am A530
          clear A530
          by_cases c54 : (t128.length : Int) = t103
          ·rw [if_pos c54] at H
           have c54b0 : ((t128.length : Int) == t103) = true := beq_iff_eq.mpr c54
           have c54b1 : ((t128.length : Int) != t103) = false := bne_eq_false_iff_eq.mpr c54
           clear c54
           have H' := am H
           clear H
           go_wp2_with (first | ((with_reducible refine gate_callee (f := 18) rfl ?_); refine goesL_ (some 88) rfl rfl Try.func18 (by kernel_rfl) rfl #[.int .i64 t103, .slice none 0 0] rfl (by (try simp only [List.map_toArray, List.map_cons, List.map_nil]); first | done | rfl | (simp only [List.length_drop, List.length_take]; rfl)) ?_; (refine (graph_Parts.calls k2 t103 _ _ ([] : List (IPair)) t128 _ ?side1 ?side2 A53.out).mono ?_); (case side1 => exact Kd.C_nil _ _); (case side2 => exact Nat.le_refl _); rintro e w55 ⟨v129, rfl, ho0, hb⟩; refine ⟨_, rfl, ?_⟩; replace HO_11 := am (Kd.R_below (by (with_reducible repeat (first | apply Ra | apply Rn | apply Rd)); exact HO_11.out) hb); replace HO_12 := am (Kd.R_below (by (with_reducible repeat (first | apply Ra | apply Rn | apply Rd)); exact HO_12.out) hb); replace HO_14 := am (Kd.R_below (by (with_reducible repeat (first | apply Ra | apply Rn | apply Rd)); exact HO_14.out) hb); replace HO_15 := am (Kd.R_below (by (with_reducible repeat (first | apply Ra | apply Rn | apply Rd)); exact HO_15.out) hb); have HO130 := am (Kd.S_lower ho0 (below_size (by repeat (first | (with_reducible first | exact HB.out | apply lA | apply lN | apply lD | refine lS ?_ GE101.out) | exact HB.out)))); replace BK101 := am (blk_below (g := gb101) (o := .cells #[.int .u8 a2_0, .int .u8 a2_1] 45 (0, 0)) (by (with_reducible repeat (first | refine bN ?_ _ | refine bD ?_ | refine bA ?_ _)); exact BK101.out) hb); replace HB := am (below_step (by repeat (first | (with_reducible first | exact HB.out | apply lA | apply lN | apply lD | refine lS ?_ GE101.out) | exact HB.out)) hb); (try clear hb); (try clear hb2); (try clear hk); (try clear hi); (try clear ho0); obtain ⟨Ao56, co56, eo56⟩ := Kd.S_slice HO130.out; subst eo56))
           go_loopg [18] k2 (fun kq v18 w' => ∃ (x18_3 : Int), v18 = .int .i64 x18_3 ∧ Aside0 (lambrequinlaw10_GraphMore.l1 kq t102 t103 t104 y116 t128 x18_3 = some r) ∧ Aside0 (kq ≤ k2) ∧ Aside0 (Kd.R k27 27 w' w.heap.size (fun k_ => some k_ ≠ ((.slice Ao27 y116.length co27) : Value).ownBlock) (.slice Ao16 t104.length co16) t104) ∧ Aside0 (Kd.R k27 27 w' w.heap.size (fun k_ => some k_ ≠ ((.slice Ao16 t104.length co16) : Value).ownBlock) (.slice Ao27 y116.length co27) y116) ∧ Aside0 (Kd.S (Kd.slice 3 (Kd.int .i64)) 35 w' w.heap.size (fun _ => True) (.slice Ao56 t128.length co56) t128) ∧ Aside0 (w'.heap[gb101]? = some (.cells #[.int .u8 a2_0, .int .u8 a2_1] 45 (0, 0))) ∧ Aside0 (Below w.heap.size w w'))
           case atStart => exact ⟨(0), (by first | rfl | (simp; done) | (simp [*]; done)), H', ⟨Nat.le_refl _⟩, ⟨by (with_reducible repeat (first | apply Ra | apply Rn | apply Rd)); exact HO_11.out⟩, ⟨by (with_reducible repeat (first | apply Ra | apply Rn | apply Rd)); exact HO_12.out⟩, ⟨by (with_reducible repeat (first | apply Kd.S_alloc | apply Kd.S_drewN | apply Kd.S_drew)); exact HO130.out⟩, ⟨by (with_reducible repeat (first | refine bN ?_ _ | refine bD ?_ | refine bA ?_ _)); exact BK101.out⟩, ⟨by repeat (first | (with_reducible first | exact HB.out | apply lA | apply lN | apply lD | refine lS ?_ GE101.out) | exact HB.out)⟩⟩
           case round =>
            clear H'
            try clear c1
            try clear p1
            try clear q1
            try clear hx1
            try clear c2
            try clear p2
            try clear c3
            try clear c4
            try clear q4
            try clear c5
            try clear p6
            try clear c7
            try clear c8
            try clear c8b0
            try clear c8b1
            try clear c9
            try clear p12
            try clear q12
            try clear hx12
            try clear c14
            try clear c15
            try clear c18
            try clear c22
            try clear c29
            try clear c29b0
            try clear c29b1
            try clear c30
            try clear c30b0
            try clear c30b1
            try clear c32
            try clear c32b0
            try clear c33
            try clear c33b0
            try clear c39
            try clear c40
            try clear c40b0
            try clear c41
            try clear c41b0
            try clear c42
            try clear c42b0
            try clear q43
            try clear c44
            try clear c45
            try clear c45b0
            try clear q46
            try clear c47
            try clear c54
            try clear c54b0
            try clear c54b1
            try clear hx125_0
            try clear hx126_0
            try clear hx127_0
            try clear p1
            try clear p12
            try clear p125
            try clear p126
            try clear p127
            try clear p2
            try clear p6
            try clear q1
            try clear q12
            try clear q125
            try clear q126
            try clear q127
            obtain ⟨x18_3, rfl, HA, HK3, HO_11, HO_12, HO_17, BK101, HB⟩ := hrel
            cases gk with
            | zero => exact absurd HA.out (by simp [lambrequinlaw10_GraphMore.l1])
            | succ k3 =>
             have H := HA.out
             clear HA
             simp only [lambrequinlaw10_GraphMore.l1] at H
             by_cases c57 : x18_3 < t103
             ·rw [if_pos c57] at H
              have c57b0 : decide (x18_3 < t103) = true := decide_eq_true c57
              clear c57
              by_cases c58 : 0 ≤ x18_3
              ·rw [if_pos c58] at H
               have c58b0 : decide (0 ≤ x18_3) = true := decide_eq_true c58
               clear c58
               by_cases c59 : x18_3 < (t128.length : Int)
               ·rw [if_pos c59] at H
                have c59b0 : decide (x18_3 < (t128.length : Int)) = true := decide_eq_true c59
                clear c59
                by_cases c60 : ((rd_L19 t128 x18_3).length : Int) = 1
                ·rw [if_pos c60] at H
                 have c60b0 : (((rd_L19 t128 x18_3).length : Int) == 1) = true := beq_iff_eq.mpr c60
                 have c60b1 : (((rd_L19 t128 x18_3).length : Int) != 1) = false := bne_eq_false_iff_eq.mpr c60
                 clear c60
                 by_cases c61 : 0 < ((rd_L19 t128 x18_3).length : Int)
                 ·rw [if_pos c61] at H
                  have c61b0 : decide (0 < ((rd_L19 t128 x18_3).length : Int)) = true := decide_eq_true c61
                  have c61b1 : decide (0 < (rd_L19 t128 x18_3).length) = true := decide_eq_true (by omega)
                  clear c61
                  by_cases c62 : (rd (rd_L19 t128 x18_3) 0) = x18_3
                  ·rw [if_pos c62] at H
                   have c62b0 : ((rd (rd_L19 t128 x18_3) 0) == x18_3) = true := beq_iff_eq.mpr c62
                   have c62b1 : ((rd (rd_L19 t128 x18_3) 0) != x18_3) = false := bne_eq_false_iff_eq.mpr c62
                   clear c62
                   have H' := am H
                   clear H
                   have p131 : 0 ≤ (x18_3 : Int) := of_decide_eq_true (by first | (with_reducible assumption) | assumption)
                   have q131 : x18_3 < (t128.length : Int) := of_decide_eq_true (by first | (with_reducible assumption) | assumption)
                   obtain ⟨ad131, A131_0, c131_0, e131, hx131_0, hl131_0, hi131_0⟩ := at_L19 (Kd.S_reads' HO_17.out).2.2 x18_3 p131 q131
                   cases e131
                   obtain ⟨ce131, hce131, hMe131, hcc131⟩ := Kd.S_get HO_17.out [] x18_3 p131 (by first | exact q131 | exact of_decide_eq_true (by first | (with_reducible assumption) | assumption) | (have e_ := (Kd.S_reads' HO_17.out).1; omega))
                   obtain ⟨ve131_0, rfl, ge131_0⟩ := hMe131
                   have hv131_0 := hcc131 0 _ rfl
                   rw [Nat.add_zero, show ((Kd.slice 3 (Kd.int .i64))).sz = 1 from rfl, Nat.mul_one] at hv131_0
                   replace hv131_0 := Option.some.inj (hv131_0.symm.trans hx131_0)
                   rw [hv131_0] at ge131_0
                   have HL131_0 := am (show Kd.R (Kd.int .i64) 3 _ _ _ _ (rd_L19 t128 x18_3) from ge131_0)
                   clear hv131_0 ge131_0
                   clear hcc131 hce131
                   have HR131_0 := am hi131_0
                   have HC131_0 := am hl131_0
                   clear hi131_0 hl131_0
                   replace p131 := eq_true p131
                   replace q131 := eq_true q131
                   have p132 : 0 ≤ (x18_3 : Int) := of_decide_eq_true (by first | (with_reducible assumption) | assumption)
                   have q132 : x18_3 < (t128.length : Int) := of_decide_eq_true (by first | (with_reducible assumption) | assumption)
                   obtain ⟨ad132, A132_0, c132_0, e132, hx132_0, hl132_0, hi132_0⟩ := at_L19 (Kd.S_reads' HO_17.out).2.2 x18_3 p132 q132
                   obtain rfl : ad131 = ad132 := (by injection e132)
                   obtain ⟨ce132, hce132, hMe132, hcc132⟩ := Kd.S_get HO_17.out [] x18_3 p132 (by first | exact q132 | exact of_decide_eq_true (by first | (with_reducible assumption) | assumption) | (have e_ := (Kd.S_reads' HO_17.out).1; omega))
                   obtain ⟨ve132_0, rfl, ge132_0⟩ := hMe132
                   have hv132_0 := hcc132 0 _ rfl
                   rw [Nat.add_zero, show ((Kd.slice 3 (Kd.int .i64))).sz = 1 from rfl, Nat.mul_one] at hv132_0
                   replace hv132_0 := Option.some.inj (hv132_0.symm.trans hx132_0)
                   rw [hv132_0] at ge132_0
                   have HL132_0 := am (show Kd.R (Kd.int .i64) 3 _ _ _ _ (rd_L19 t128 x18_3) from ge132_0)
                   clear hv132_0 ge132_0
                   clear hcc132 hce132
                   have HR132_0 := am hi132_0
                   have HC132_0 := am hl132_0
                   clear hi132_0 hl132_0
                   replace p132 := eq_true p132
                   replace q132 := eq_true q132
                   have ea_ := Option.some.inj (hx131_0.symm.trans hx132_0)
                   injection ea_ with ea_ en_ ec_
                   subst ea_
                   subst ec_
                   clear en_
                   have p133 : 0 ≤ (0 : Int) := (by omega)
                   have q133 : 0 < ((rd_L19 t128 x18_3).length : Int) := of_decide_eq_true (by first | (with_reducible assumption) | assumption)
                   obtain ⟨ad133, e133, hx133_0⟩ := Kd.at_int (by repeat (first | (with_reducible exact HR132_0.out) | (with_reducible refine Kd.C_alloc ?_ _) | (with_reducible refine Kd.C_drewN ?_ _) | (with_reducible refine Kd.C_drew ?_) | exact HR132_0.out)) 0 p133 q133
                   cases e133
                   have qi133 : (0 < (rd_L19 t128 x18_3).length) = True := eq_true (by omega)
                   (try rw [show ((0 : Int)).toNat = 0 from rfl] at hx133_0)
                   (try rw [Addr.add_zero'] at hx133_0)
                   replace p133 := eq_true p133
                   replace q133 := eq_true q133
                   go_wp2
                   go_roundg k3
                   case measure => have := HJ11.out; have := HK2.out; have := HK3.out; omega
                   case rel => exact ⟨(wrap64 (x18_3 + 1)), (by first | rfl | (simp; done) | (simp [*]; done)), H', ⟨by have := HJ11.out; have := HK2.out; have := HK3.out; omega⟩, ⟨by (with_reducible repeat (first | apply Ra | apply Rn | apply Rd)); exact HO_11.out⟩, ⟨by (with_reducible repeat (first | apply Ra | apply Rn | apply Rd)); exact HO_12.out⟩, ⟨by (with_reducible repeat (first | apply Kd.S_alloc | apply Kd.S_drewN | apply Kd.S_drew)); exact HO_17.out⟩, ⟨by (with_reducible repeat (first | refine bN ?_ _ | refine bD ?_ | refine bA ?_ _)); exact BK101.out⟩, ⟨by repeat (first | (with_reducible first | exact HB.out | apply lA | apply lN | apply lD | refine lS ?_ GE101.out) | exact HB.out)⟩⟩
                  ·rw [if_neg c62] at H
                   have c62b0 : ((rd (rd_L19 t128 x18_3) 0) == x18_3) = false := beq_eq_false_iff_ne.mpr c62
                   have c62b1 : ((rd (rd_L19 t128 x18_3) 0) != x18_3) = true := bne_iff_ne.mpr c62
                   obtain rfl := Option.some.inj H
                   have p131 : 0 ≤ (x18_3 : Int) := of_decide_eq_true (by first | (with_reducible assumption) | assumption)
                   have q131 : x18_3 < (t128.length : Int) := of_decide_eq_true (by first | (with_reducible assumption) | assumption)
                   obtain ⟨ad131, A131_0, c131_0, e131, hx131_0, hl131_0, hi131_0⟩ := at_L19 (Kd.S_reads' HO_17.out).2.2 x18_3 p131 q131
                   cases e131
                   obtain ⟨ce131, hce131, hMe131, hcc131⟩ := Kd.S_get HO_17.out [] x18_3 p131 (by first | exact q131 | exact of_decide_eq_true (by first | (with_reducible assumption) | assumption) | (have e_ := (Kd.S_reads' HO_17.out).1; omega))
                   obtain ⟨ve131_0, rfl, ge131_0⟩ := hMe131
                   have hv131_0 := hcc131 0 _ rfl
                   rw [Nat.add_zero, show ((Kd.slice 3 (Kd.int .i64))).sz = 1 from rfl, Nat.mul_one] at hv131_0
                   replace hv131_0 := Option.some.inj (hv131_0.symm.trans hx131_0)
                   rw [hv131_0] at ge131_0
                   have HL131_0 := am (show Kd.R (Kd.int .i64) 3 _ _ _ _ (rd_L19 t128 x18_3) from ge131_0)
                   clear hv131_0 ge131_0
                   clear hcc131 hce131
                   have HR131_0 := am hi131_0
                   have HC131_0 := am hl131_0
                   clear hi131_0 hl131_0
                   replace p131 := eq_true p131
                   replace q131 := eq_true q131
                   have p132 : 0 ≤ (x18_3 : Int) := of_decide_eq_true (by first | (with_reducible assumption) | assumption)
                   have q132 : x18_3 < (t128.length : Int) := of_decide_eq_true (by first | (with_reducible assumption) | assumption)
                   obtain ⟨ad132, A132_0, c132_0, e132, hx132_0, hl132_0, hi132_0⟩ := at_L19 (Kd.S_reads' HO_17.out).2.2 x18_3 p132 q132
                   obtain rfl : ad131 = ad132 := (by injection e132)
                   obtain ⟨ce132, hce132, hMe132, hcc132⟩ := Kd.S_get HO_17.out [] x18_3 p132 (by first | exact q132 | exact of_decide_eq_true (by first | (with_reducible assumption) | assumption) | (have e_ := (Kd.S_reads' HO_17.out).1; omega))
                   obtain ⟨ve132_0, rfl, ge132_0⟩ := hMe132
                   have hv132_0 := hcc132 0 _ rfl
                   rw [Nat.add_zero, show ((Kd.slice 3 (Kd.int .i64))).sz = 1 from rfl, Nat.mul_one] at hv132_0
                   replace hv132_0 := Option.some.inj (hv132_0.symm.trans hx132_0)
                   rw [hv132_0] at ge132_0
                   have HL132_0 := am (show Kd.R (Kd.int .i64) 3 _ _ _ _ (rd_L19 t128 x18_3) from ge132_0)
                   clear hv132_0 ge132_0
                   clear hcc132 hce132
                   have HR132_0 := am hi132_0
                   have HC132_0 := am hl132_0
                   clear hi132_0 hl132_0
                   replace p132 := eq_true p132
                   replace q132 := eq_true q132
                   have ea_ := Option.some.inj (hx131_0.symm.trans hx132_0)
                   injection ea_ with ea_ en_ ec_
                   subst ea_
                   subst ec_
                   clear en_
                   have p133 : 0 ≤ (0 : Int) := (by omega)
                   have q133 : 0 < ((rd_L19 t128 x18_3).length : Int) := of_decide_eq_true (by first | (with_reducible assumption) | assumption)
                   obtain ⟨ad133, e133, hx133_0⟩ := Kd.at_int (by repeat (first | (with_reducible exact HR132_0.out) | (with_reducible refine Kd.C_alloc ?_ _) | (with_reducible refine Kd.C_drewN ?_ _) | (with_reducible refine Kd.C_drew ?_) | exact HR132_0.out)) 0 p133 q133
                   cases e133
                   have qi133 : (0 < (rd_L19 t128 x18_3).length) = True := eq_true (by omega)
                   (try rw [show ((0 : Int)).toNat = 0 from rfl] at hx133_0)
                   (try rw [Addr.add_zero'] at hx133_0)
                   replace p133 := eq_true p133
                   replace q133 := eq_true q133
                   go_wp2
                   go_ret
                   exact ⟨by first | rfl | (simp [errW_none, errW_some] <;> rfl) | (simp [*, errW_none, errW_some] <;> rfl), by repeat (first | (with_reducible first | exact HB.out | apply lA | apply lN | apply lD | refine lS ?_ GE101.out) | exact HB.out)⟩
                 ·rw [if_neg c61] at H
                  exact absurd H (by simp)
                ·rw [if_neg c60] at H
                 have c60b0 : (((rd_L19 t128 x18_3).length : Int) == 1) = false := beq_eq_false_iff_ne.mpr c60
                 have c60b1 : (((rd_L19 t128 x18_3).length : Int) != 1) = true := bne_iff_ne.mpr c60
                 obtain rfl := Option.some.inj H
                 have p131 : 0 ≤ (x18_3 : Int) := of_decide_eq_true (by first | (with_reducible assumption) | assumption)
                 have q131 : x18_3 < (t128.length : Int) := of_decide_eq_true (by first | (with_reducible assumption) | assumption)
                 obtain ⟨ad131, A131_0, c131_0, e131, hx131_0, hl131_0, hi131_0⟩ := at_L19 (Kd.S_reads' HO_17.out).2.2 x18_3 p131 q131
                 cases e131
                 obtain ⟨ce131, hce131, hMe131, hcc131⟩ := Kd.S_get HO_17.out [] x18_3 p131 (by first | exact q131 | exact of_decide_eq_true (by first | (with_reducible assumption) | assumption) | (have e_ := (Kd.S_reads' HO_17.out).1; omega))
                 obtain ⟨ve131_0, rfl, ge131_0⟩ := hMe131
                 have hv131_0 := hcc131 0 _ rfl
                 rw [Nat.add_zero, show ((Kd.slice 3 (Kd.int .i64))).sz = 1 from rfl, Nat.mul_one] at hv131_0
                 replace hv131_0 := Option.some.inj (hv131_0.symm.trans hx131_0)
                 rw [hv131_0] at ge131_0
                 have HL131_0 := am (show Kd.R (Kd.int .i64) 3 _ _ _ _ (rd_L19 t128 x18_3) from ge131_0)
                 clear hv131_0 ge131_0
                 clear hcc131 hce131
                 have HR131_0 := am hi131_0
                 have HC131_0 := am hl131_0
                 clear hi131_0 hl131_0
                 replace p131 := eq_true p131
                 replace q131 := eq_true q131
                 go_wp2
                 go_ret
                 exact ⟨by first | rfl | (simp [errW_none, errW_some] <;> rfl) | (simp [*, errW_none, errW_some] <;> rfl), by repeat (first | (with_reducible first | exact HB.out | apply lA | apply lN | apply lD | refine lS ?_ GE101.out) | exact HB.out)⟩
               ·rw [if_neg c59] at H
                exact absurd H (by simp)
              ·rw [if_neg c58] at H
               exact absurd H (by simp)
             ·rw [if_neg c57] at H
              have c57b0 : decide (x18_3 < t103) = false := decide_eq_false c57
              clear c57
              by_cases c63 : t102 = true
              ·subst c63
               have H1 : ((graph_Parts.f k3 t103 y116).bind fun t134 => ((graph_Parts.f k3 t103 t104).bind fun t137 => (some (decide ((t134.length : Int) ≤ (t137.length : Int)))))) = some r := by rw [if_pos rfl] at H; exact H
               clear H
               have H := H1
               clear H1
               replace H := Option.bind_eq_some_iff.mp H
               obtain ⟨t134, A640, H⟩ := H
               replace H : ((graph_Parts.f k3 t103 t104).bind fun t137 => (some (decide ((t134.length : Int) ≤ (t137.length : Int))))) = some r := H
               have A64 := am A640
               clear A640
               replace H := Option.bind_eq_some_iff.mp H
               obtain ⟨t137, A650, H⟩ := H
               replace H : (some (decide ((t134.length : Int) ≤ (t137.length : Int)))) = some r := H
               have A65 := am A650
               clear A650
               obtain rfl := Option.some.inj H
               go_wp2_with (first | (go_at_call 18; (with_reducible refine (graph_Parts.calls k3 t103 _ _ y116 t134 _ ?side1 ?side2 A64.out).mono ?_); (case side1 => repeat (first | exact (Kd.R_reads' HO_12.out).2.2 | (with_reducible refine Kd.C_alloc ?_ _) | (with_reducible refine Kd.C_drewN ?_ _) | (with_reducible refine Kd.C_drew ?_))); (case side2 => exact (Kd.R_reads' HO_12.out).2.1); rintro e w66 ⟨v135, rfl, ho0, hb⟩; replace HO_11 := am (Kd.R_below (by (with_reducible repeat (first | apply Ra | apply Rn | apply Rd)); exact HO_11.out) hb); replace HO_12 := am (Kd.R_below (by (with_reducible repeat (first | apply Ra | apply Rn | apply Rd)); exact HO_12.out) hb); have HO136 := am (Kd.S_lower (Kd.S_new' ho0 (Kd.S_lt (by (with_reducible repeat (first | apply Kd.S_alloc | apply Kd.S_drewN | apply Kd.S_drew)); exact HO_17.out))) (below_size (by repeat (first | (with_reducible first | exact HB.out | apply lA | apply lN | apply lD | refine lS ?_ GE101.out) | exact HB.out)))); replace HO_17 := am (Kd.S_elder' (by (with_reducible repeat (first | apply Kd.S_alloc | apply Kd.S_drewN | apply Kd.S_drew)); exact HO_17.out) (Kd.S_base ho0) hb); replace BK101 := am (blk_below (g := gb101) (o := .cells #[.int .u8 a2_0, .int .u8 a2_1] 45 (0, 0)) (by (with_reducible repeat (first | refine bN ?_ _ | refine bD ?_ | refine bA ?_ _)); exact BK101.out) hb); replace HB := am (below_step (by repeat (first | (with_reducible first | exact HB.out | apply lA | apply lN | apply lD | refine lS ?_ GE101.out) | exact HB.out)) hb); (try clear hb); (try clear hb2); (try clear hk); (try clear hi); (try clear ho0); obtain ⟨Ao67, co67, eo67⟩ := Kd.S_slice HO136.out; subst eo67) | (go_at_call 18; (with_reducible refine (graph_Parts.calls k3 t103 _ _ t104 t137 _ ?side1 ?side2 A65.out).mono ?_); (case side1 => repeat (first | exact (Kd.R_reads' HO_11.out).2.2 | (with_reducible refine Kd.C_alloc ?_ _) | (with_reducible refine Kd.C_drewN ?_ _) | (with_reducible refine Kd.C_drew ?_))); (case side2 => exact (Kd.R_reads' HO_11.out).2.1); rintro e w68 ⟨v138, rfl, ho0, hb⟩; replace HO_11 := am (Kd.R_below (by (with_reducible repeat (first | apply Ra | apply Rn | apply Rd)); exact HO_11.out) hb); replace HO_12 := am (Kd.R_below (by (with_reducible repeat (first | apply Ra | apply Rn | apply Rd)); exact HO_12.out) hb); have HO139 := am (Kd.S_lower (Kd.S_new' (Kd.S_new' ho0 (Kd.S_lt (by (with_reducible repeat (first | apply Kd.S_alloc | apply Kd.S_drewN | apply Kd.S_drew)); exact HO_17.out))) (Kd.S_lt (by (with_reducible repeat (first | apply Kd.S_alloc | apply Kd.S_drewN | apply Kd.S_drew)); exact HO136.out))) (below_size (by repeat (first | (with_reducible first | exact HB.out | apply lA | apply lN | apply lD | refine lS ?_ GE101.out) | exact HB.out)))); replace HO_17 := am (Kd.S_elder' (by (with_reducible repeat (first | apply Kd.S_alloc | apply Kd.S_drewN | apply Kd.S_drew)); exact HO_17.out) (Kd.S_base ho0) hb); replace HO136 := am (Kd.S_elder' (by (with_reducible repeat (first | apply Kd.S_alloc | apply Kd.S_drewN | apply Kd.S_drew)); exact HO136.out) (Kd.S_base ho0) hb); replace BK101 := am (blk_below (g := gb101) (o := .cells #[.int .u8 a2_0, .int .u8 a2_1] 45 (0, 0)) (by (with_reducible repeat (first | refine bN ?_ _ | refine bD ?_ | refine bA ?_ _)); exact BK101.out) hb); replace HB := am (below_step (by repeat (first | (with_reducible first | exact HB.out | apply lA | apply lN | apply lD | refine lS ?_ GE101.out) | exact HB.out)) hb); (try clear hb); (try clear hb2); (try clear hk); (try clear hi); (try clear ho0); obtain ⟨Ao69, co69, eo69⟩ := Kd.S_slice HO139.out; subst eo69))
               go_ret
               exact ⟨by first | rfl | (simp [errW_none, errW_some] <;> rfl) | (simp [*, errW_none, errW_some] <;> rfl), by repeat (first | (with_reducible first | exact HB.out | apply lA | apply lN | apply lD | refine lS ?_ GE101.out) | exact HB.out)⟩
              ·replace c63 := Bool.eq_false_iff.mpr c63
               subst c63
               have H1 : (some false) = some r := by rw [if_neg (show ¬ (false = true) by decide)] at H; exact H
               clear H
               have H := H1
               clear H1
               obtain rfl := Option.some.inj H
               go_wp2
               go_ret
               exact ⟨by first | rfl | (simp [errW_none, errW_some] <;> rfl) | (simp [*, errW_none, errW_some] <;> rfl), by repeat (first | (with_reducible first | exact HB.out | apply lA | apply lN | apply lD | refine lS ?_ GE101.out) | exact HB.out)⟩
          ·rw [if_neg c54] at H
           have c54b0 : ((t128.length : Int) == t103) = false := beq_eq_false_iff_ne.mpr c54
           have c54b1 : ((t128.length : Int) != t103) = true := bne_iff_ne.mpr c54
           obtain rfl := Option.some.inj H
           go_wp2_with (first | ((with_reducible refine gate_callee (f := 18) rfl ?_); refine goesL_ (some 88) rfl rfl Try.func18 (by kernel_rfl) rfl #[.int .i64 t103, .slice none 0 0] rfl (by (try simp only [List.map_toArray, List.map_cons, List.map_nil]); first | done | rfl | (simp only [List.length_drop, List.length_take]; rfl)) ?_; (refine (graph_Parts.calls k2 t103 _ _ ([] : List (IPair)) t128 _ ?side1 ?side2 A53.out).mono ?_); (case side1 => exact Kd.C_nil _ _); (case side2 => exact Nat.le_refl _); rintro e w70 ⟨v129, rfl, ho0, hb⟩; refine ⟨_, rfl, ?_⟩; replace HO_11 := am (Kd.R_below (by (with_reducible repeat (first | apply Ra | apply Rn | apply Rd)); exact HO_11.out) hb); replace HO_12 := am (Kd.R_below (by (with_reducible repeat (first | apply Ra | apply Rn | apply Rd)); exact HO_12.out) hb); replace HO_14 := am (Kd.R_below (by (with_reducible repeat (first | apply Ra | apply Rn | apply Rd)); exact HO_14.out) hb); replace HO_15 := am (Kd.R_below (by (with_reducible repeat (first | apply Ra | apply Rn | apply Rd)); exact HO_15.out) hb); have HO130 := am (Kd.S_lower ho0 (below_size (by repeat (first | (with_reducible first | exact HB.out | apply lA | apply lN | apply lD | refine lS ?_ GE101.out) | exact HB.out)))); replace BK101 := am (blk_below (g := gb101) (o := .cells #[.int .u8 a2_0, .int .u8 a2_1] 45 (0, 0)) (by (with_reducible repeat (first | refine bN ?_ _ | refine bD ?_ | refine bA ?_ _)); exact BK101.out) hb); replace HB := am (below_step (by repeat (first | (with_reducible first | exact HB.out | apply lA | apply lN | apply lD | refine lS ?_ GE101.out) | exact HB.out)) hb); (try clear hb); (try clear hb2); (try clear hk); (try clear hi); (try clear ho0); obtain ⟨Ao71, co71, eo71⟩ := Kd.S_slice HO130.out; subst eo71))
           go_ret
           exact ⟨by first | rfl | (simp [errW_none, errW_some] <;> rfl) | (simp [*, errW_none, errW_some] <;> rfl), by repeat (first | (with_reducible first | exact HB.out | apply lA | apply lN | apply lD | refine lS ?_ GE101.out) | exact HB.out)⟩
   ·rw [if_neg c9] at H
    exact absurd H (by simp)
 ·rw [if_neg c7] at H
  exact absurd H (by simp)
end Go.Proofs.Ytmlhnjonmjmhdaa.H
/- GraphMore: with one more edge all that was reached is, and no more parts are told -/
namespace Go.Proofs.Ytmlhnjonmjmhdaa.H
open Go.RowKit Go.Proofs.YtmlhnjonmjmhdaaW.PrintWords
theorem more_l1 {n : Nat} {l l' : List IPair} (hn : n ≤ 1000) (hl : l.length ≤ 1000000) (hl' : l'.length ≤ 1000000) (hb : cleanBad (n : Int) l = false) (hb' : cleanBad (n : Int) l' = false) (hsub : ∀ e ∈ l, e ∈ l') :
    ∀ (m i : Nat), i + m = n → Ev (fun k => lambrequinlaw10_GraphMore.l1 k true (n : Int) l l' ((List.range n).map fun (i : Nat) => [(i : Int)]) (i : Int)) true
  | 0, i, h => by
    obtain ⟨xs, hx, hc⟩ := Parts_cls hl hb
    obtain ⟨xs', hx', hc'⟩ := Parts_cls hl' hb'
    refine Ev.step (fun k => by rw [lambrequinlaw10_GraphMore.l1]) ?_
    refine Ev.neg (by omega) (Ev.pos rfl (Ev.bind hx' (Ev.bind hx (Ev.some ?_))))
    have := hc.few hsub hc'
    simp
    omega
  | m + 1, i, h => by
    have hi : i < n := by omega
    have e : rd_L19 ((List.range n).map fun (i : Nat) => [(i : Int)]) (i : Int) = [(i : Int)] := by
      refine getD_at (n := i) ?_ _
      rw [List.getElem?_map, List.getElem?_range hi]
      rfl
    have e2 : wrap64 ((i : Int) + 1) = ((i + 1 : Nat) : Int) := wrap_up (by omega)
    refine Ev.step (fun k => by rw [lambrequinlaw10_GraphMore.l1]) ?_
    refine Ev.pos (by omega) (Ev.pos (by omega) (Ev.pos (by simp; omega) (Ev.pos (by rw [e]; rfl) (Ev.pos (by rw [e, List.length_singleton]; decide) (Ev.pos (by rw [e]; rfl) ?_)))))
    rw [e2]
    exact more_l1 hn hl hl' hb hb' hsub m (i + 1) (by omega)
theorem more_l0 {n a : Nat} {l l' : List IPair} (hn : n ≤ 1000) (ha : a < n) (hl : l.length ≤ 1000000) (hl' : l'.length ≤ 1000000) (hb : cleanBad (n : Int) l = false) (hb' : cleanBad (n : Int) l' = false) (hsub : ∀ e ∈ l, e ∈ l') :
    ∀ (m i : Nat), i + m = n → Ev (fun k => lambrequinlaw10_GraphMore.l0 k true (n : Int) l l' (reachL (rws n l) a) (reachL (rws n l') a) (i : Int)) true
  | 0, i, h => by
    refine Ev.step (fun k => by rw [lambrequinlaw10_GraphMore.l0]) ?_
    exact Ev.neg (by omega) (Ev.bind (Parts_none hn) (Ev.pos (by simp) (more_l1 hn hl hl' hb hb' hsub n 0 (by omega))))
  | m + 1, i, h => by
    have hi : i < n := by omega
    have e2 : wrap64 ((i : Int) + 1) = ((i + 1 : Nat) : Int) := wrap_up (by omega)
    have next := more_l0 hn ha hl hl' hb hb' hsub m (i + 1) (by omega)
    rw [← e2] at next
    have l1 := reach_len hb ha
    have l2 := reach_len hb' ha
    refine Ev.step (fun k => by rw [lambrequinlaw10_GraphMore.l0]) ?_
    refine Ev.pos (by clear e2; omega) (Ev.pos (by clear e2; omega) (Ev.pos (by clear e2; omega) ?_))
    by_cases hr : rdOf false (reachL (rws n l) a) (i : Int) = true
    · refine Ev.pos hr (Ev.pos (by clear e2; omega) (Ev.pos ?_ next))
      exact (reach_true hb' ha hi).2 (Rch_more hsub ((reach_true hb ha hi).1 hr))
    · exact Ev.neg hr next
theorem GraphMore_ev (a0 : Int) (h0 : 0 ≤ a0) (h1 : a0 < 256) (l : List BPair) (hl : l.length ≤ 9223372036854775807) (hb : ∀ e ∈ l, byteP e) (e : BPair) (he : byteP e) (a3 : Int) (h6 : 0 ≤ a3) (h7 : a3 < 256) : Ev (fun k => lambrequinlaw10_GraphMore.f k a0 l e.fst e.snd a3) true := by
  obtain ⟨n, es, hn, hn2, hev, hel, hin⟩ := ends_ev a0 h0 h1 l hl hb
  unfold byteP at he
  have w1 : wrap64 e.fst = e.fst := by unfold wrap64; omega
  have w2 : wrap64 e.snd = e.snd := by unfold wrap64; omega
  have w3 : wrap64 a3 = a3 := by unfold wrap64; omega
  have t1 := tmod_in (v := e.fst) (n := (n : Int)) he.1 (by clear w1 w2 w3; omega)
  have t2 := tmod_in (v := e.snd) (n := (n : Int)) he.2.2.1 (by clear w1 w2 w3; omega)
  have t3 := tmod_in (v := a3) (n := (n : Int)) h6 (by clear w1 w2 w3; omega)
  unfold lambrequinlaw10_GraphMore.f
  simp only [w1, w2, w3]
  clear w1 w2 w3
  obtain ⟨a, ha⟩ := Int.eq_ofNat_of_zero_le t3.1
  have han : a < n := by omega
  have hbad := inE_bad hin (by omega)
  have hin' : inE n (es ++ [⟨Int.tmod e.fst n, Int.tmod e.snd n⟩]) := by
    intro x hx
    rcases List.mem_append.1 hx with hx | hx
    · exact hin x hx
    · rw [List.mem_singleton.1 hx]; exact ⟨t1.1, t1.2, t2.1, t2.2⟩
  have hbad' := inE_bad hin' (by omega)
  have hle : (es ++ [(⟨Int.tmod e.fst n, Int.tmod e.snd n⟩ : IPair)]).length ≤ 1000000 := by rw [List.length_append, List.length_singleton]; omega
  have r1 := reach_len hbad han
  have r2 := reach_len hbad' han
  refine Ev.bind shown10_ev (Ev.bind hev ?_)
  simp only [ha]
  refine Ev.pure rfl (Ev.pos (by simp; omega) (Ev.pure rfl (Ev.neg (by omega) (Ev.pure rfl (Ev.pos (by simp; omega) (Ev.pure rfl ?_))))))
  refine Ev.bind (Reach_ev (by omega) hbad han) (Ev.bind (Reach_ev hle hbad' han) (Ev.pos (by omega) (Ev.pos (by omega) (Ev.pos (by omega) (Ev.pos (by omega) ?_)))))
  rw [(reach_true hbad han han).2 .refl]
  refine Ev.step (fun k => by rw [lambrequinlaw10_GraphMore.j0]) ?_
  exact Ev.neg (by decide) (more_l0 (by omega) han (by omega) hle hbad hbad' (fun x hx => List.mem_append_left _ hx) n 0 (by omega))
theorem GraphMore_pure (a0 : Int) (w0 : (Lit.int .u8 a0).wf = true) (x1 : List BPair) (y1 : x1.length * 2 ≤ 140737488351232) (b1 : x1.length ≤ 9223372036854775807 ∧ ∀ y ∈ x1, bBPair y) (x2 : BPair) (b2 : bBPair x2) (a3 : Int) (w3 : (Lit.int .u8 a3).wf = true) :
    ∃ k, lambrequinlaw10_GraphMore.f k a0 x1 x2.fst x2.snd a3 = some true :=
  Ev.rounds (g := fun k => lambrequinlaw10_GraphMore.f k a0 x1 x2.fst x2.snd a3) (GraphMore_ev a0 (byte_wf w0).1 (byte_wf w0).2 x1 b1.1 (bytes_of b1.2) x2 ⟨(byte_wf b2.1).1, (byte_wf b2.1).2, (byte_wf b2.2).1, (byte_wf b2.2).2⟩ a3 (byte_wf w3).1 (byte_wf w3).2)
theorem GraphMore_walk (w : World) (a0 : Int) (w0 : (Lit.int .u8 a0).wf = true) (x1 : (List BPair)) (A1 : Option Addr) (c1 : Nat) (l1 : x1.length ≤ c1) (g1 : Kd.C k45 w A1 x1.length x1) (y1 : x1.length * 2 ≤ 140737488351232) (b1 : x1.length ≤ 9223372036854775807 ∧ ∀ y ∈ x1, bBPair y) (x2 : BPair) (b2 : bBPair x2) (a3 : Int) (w3 : (Lit.int .u8 a3).wf = true) :
    Calls Try.prog 7 #[.int .u8 a0, .slice A1 x1.length c1, .agg #[.int .u8 x2.fst, .int .u8 x2.snd], .int .u8 a3] w fun e w' => e = .returned (.bool true) ∧ Below w.heap.size w w' := by
  obtain ⟨k, h⟩ := GraphMore_pure a0 w0 x1 y1 b1 x2 b2 a3 w3
  exact (lambrequinlaw10_GraphMore.calls k a0 A1 c1 x1 x2.fst x2.snd a3 true w g1 l1 h).mono (fun e w' h' => ⟨h'.1, h'.2⟩)
end Go.Proofs.Ytmlhnjonmjmhdaa.H
namespace Go.Proofs.Ytmlhnjonmjmhdaa.graphMore
open Go.ChangeShapes Go.WideShapes Go.ChangeAt Go.RowKit Go.Proofs.Ytmlhnjonmjmhdaa.H Go.Proofs.YtmlhnjonmjmhdaaW.PrintWords
open Go.ChangeMaps (open_string shut_string)
theorem own : ownKnob Try.prog.godebug = none := by kernel_rfl
theorem laidOut : laidOutB Try.prog = true := by kernel_rfl
set_option maxRecDepth 100000 in
theorem lifted (os : Os) (started : os.Started) (H : Type) (enc : TypeId × Value → H) :
    ReturnsInHanded {} Try.checked os 7 .any (Rows.graphMoreSpec.pre6 enc Try.prog Try.f7 Rows.graphMoreRow.domain false) (Rows.graphMoreSpec.post enc Try.prog Try.f7 false true false false) := by
  refine returnsInHanded_of_change_sized (C := Try.checked) own started (by kernel_rfl) Try.func7
    (ChangeSpec.witness6 (enc := enc) (C := Try.checked) false ⟨#[], #[.int .u8 0, .slice none 0 0, .agg #[.int .u8 0, .int .u8 0], .int .u8 0], []⟩ 8 (by kernel_rfl) (by kernel_rfl) (by kernel_rfl) (by kernel_rfl)) ?_
  intro W base args ds gs before hval0 hW hcnd hsz0 _
  have hsz : (DataW.weightsEach Try.prog (Try.f7.params.toList ++ Rows.graphMoreSpec.plain.varTypes Try.prog) (ds ++ gs)).all (· ≤ reachBytes) = true := hsz0
  have hval : ∀ (j : Nat) t v, Try.f7.params[j]? = some t → args[j]? = some v → Value.okWide Try.prog W .any base t v := hval0
  have hW' := hW
  obtain ⟨p, q, hA0, hV, rfl, hfz, hnd⟩ := hW
  have hA : DataW.TrodAll enc Try.prog W 0 (fun _ => true) true Try.f7.params.toList args.toList ds p := hA0
  rw [Try.params7] at hA hval hsz
  obtain ⟨v0, vs0, d0, ds0, p0, q0, hargs, rfl, rfl, h0, r0⟩ := trodAll_cons hA
  obtain ⟨v1, vs1, d1, ds1, p1, q1, rfl, rfl, rfl, h1, r1⟩ := trodAll_cons r0
  obtain ⟨v2, vs2, d2, ds2, p2, q2, rfl, rfl, rfl, h2, r2⟩ := trodAll_cons r1
  obtain ⟨v3, vs3, d3, ds3, p3, q3, rfl, rfl, rfl, h3, r3⟩ := trodAll_cons r2
  obtain ⟨rfl, rfl, rfl⟩ := trodAll_nil r3
  obtain rfl : args = #[v0, v1, v2, v3] := by cases args; simp_all
  obtain ⟨rfl, rfl⟩ := trodVars_none hV
  obtain ⟨a0, rfl, rfl, rfl, w0⟩ := open_int Try.underlying5 (hval 0 5 v0 rfl rfl) h0
  have k1 := h1
  have lt1 : ∀ x ∈ p1, x.block < W.heap.size := by obtain ⟨m, hm⟩ := k1; exact DataW.trod_lt m _ _ _ hm
  obtain ⟨a1, len1, cap1, rfl⟩ := okWide_slice Try.underlying22 (hval 1 22 v1 rfl rfl)
  have y1 := sized_row hsz (j := 1) (t := 22) rfl rfl Try.underlying22 (B := 2) (by kernel_rfl) h1
  obtain ⟨x1, ⟨A1, c1, e1, l1, g1⟩, b1⟩ := (opens_slice Try.underlying22 (by kernel_rfl) opens_BPair 45).argB k1
  simp only [Value.cells, List.cons.injEq, and_true, Value.slice.injEq] at e1
  obtain ⟨rfl, rfl, rfl⟩ := e1
  have k2 := h2
  have lt2 : ∀ x ∈ p2, x.block < W.heap.size := by obtain ⟨m, hm⟩ := k2; exact DataW.trod_lt m _ _ _ hm
  obtain ⟨cs2, rfl, -⟩ := okWide_array Try.underlying45 (hval 2 45 v2 rfl rfl)
  obtain ⟨x2, g2, b2⟩ := opens_BPair.argB k2
  have e2 := k45_open g2
  obtain ⟨cl2⟩ := cs2
  obtain rfl : cl2 = _ := e2
  obtain ⟨a3, rfl, rfl, rfl, w3⟩ := open_int Try.underlying5 (hval 3 5 v3 rfl rfl) h3
  clear hA0 hval0 hsz0 hsz
  refine (GraphMore_walk W a0 w0 x1 a1 cap1 l1 g1 y1 b1 x2  b2 a3 w3).mono fun e W' ⟨he, bel⟩ => ?_
  subst he
  exact ⟨_, rfl, _, _, _, [], _, [], hW', trodAll_mk1 (shut_bool Try.underlying4 _), (trodAll_cons_mk (shut_int Try.underlying5 w0) (trodAll_cons_mk (Below.trod laidOut (by kernel_rfl) (of_decide_eq_true (by kernel_rfl)) k1 bel lt1) (trodAll_cons_mk (Below.trod laidOut (by kernel_rfl) (of_decide_eq_true (by kernel_rfl)) k2 bel lt2) (trodAll_cons_mk (shut_int Try.underlying5 w3) trodAll_mk0)))), rfl, bel.frame _, fun h => by cases h⟩
theorem over : Rows.graphMoreRow.holds Try.pinned (OpenSpec.ofChange Rows.graphMoreSpec) :=
  OpenClaim.holds_of_wide 7 Try.f7 rfl rfl rfl rfl rfl rfl rfl ⟨rfl, rfl, rfl, rfl, rfl⟩ rfl rfl rfl rfl rfl (by kernel_rfl) Try.func7 (by kernel_rfl)
    (of_decide_eq_true (by kernel_rfl)) (by unfold Func.isWrapper; first | (rw [if_pos (by decide +kernel)]; kernel_rfl) | (rw [if_neg (by decide +kernel)]; exact ⟨rfl, rfl⟩))
    (fun os started H enc _ => lifted os started H enc)
theorem proved : Rows.GraphMoreSaid := over
end Go.Proofs.Ytmlhnjonmjmhdaa.graphMore
namespace Go.Proofs.Ytmlhnjonmjmhdaa
theorem graphMore_holds : Rows.GraphMoreSaid := graphMore.proved
#print axioms graphMore_holds
end Go.Proofs.Ytmlhnjonmjmhdaa
